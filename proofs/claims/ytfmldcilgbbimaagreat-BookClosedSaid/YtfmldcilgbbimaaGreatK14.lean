/-
  Joined.
-/
import Derived.Test.YtfmldcilgbbimaaGreatK13
set_option linter.unusedSimpArgs false
set_option linter.unusedVariables false
namespace Go.Proofs.YtfmldcilgbbimaaGreat.Ax
open Go Go.Proofs
set_option maxRecDepth 100000
def jY (e:Ev):Bool:=if e.kind=3 then !decide (e.from_<0) && (!decide (e.to_<0) && (!decide (e.element<0) && (!decide (e.units<0) && (!decide (e.class_<0) && (!decide (e.gear<0) && e.code==0)))))
 else if e.kind=4 then !decide (e.code<0) && (e.from_==0 && (e.to_==0 && (e.element==0 && (e.units==0 && (e.class_==0 && e.gear==0)))))
 else e.from_==0 && (e.to_==0 && (e.element==0 && (e.units==0 && (e.class_==0 && (e.gear==0 && e.code==0)))))
def qF (e:Ev):Bool:= !(!XK e.kind) && (!(!Zf e.id 100000) && (!decide (e.worker<0) && (!(!Zf e.at_ 31449599) && jY e)))
theorem Wna (e:Ev) (f:e.kind=3):ji Tryz.prog 96 [evV e] (bl (qF e)):=λh=>by
 refine zf Tryz.f96 [.tmp 2] 54 rfl rfl rfl rfl rfl rfl (by decide) (⟨_,_,⟨rfl,rfl⟩,.refl⟩) λB=>?_
 simp only[go_sem]
 refine zc (c71 _ _ e (by simp only[go_sem])) ?_
 rintro _ q ⟨L,x,m,rfl,p⟩
 subst m
 have g:∀o,zq (h++(o::L)) x=some (kn h.length e.kind):=λo=>by
  have:=(p (h++[o]) (by simp)).rows
  rw[List.append_assoc] at this
  exact this
 have i:∀o,kn h.length e.kind≠[]->eOf (h++(o::L)) x=some 1:=λo r=>by
  have:=(p (h++[o]) (by simp)).ee r
  rw[List.append_assoc] at this
  exact this
 simp only[kn,f,if_true,if_false,ne_eq,reduceCtorEq,not_false_eq_true,true_implies] at g i
 simp only[go_sem]
 refine ways (λa=>?_) (λa=>?_)
 rotate_left
 ·have a:=xj a
  simp only[go_sem,a]
  (first | refine zd ?_ | refine ze ?_ (by rfl))<;>(simp only[go_sem,qF,a]<;>try rfl)
 have a:=xk a
 simp only[go_sem,a]
 refine zc (c72 e.id 100000 _) ?_
 rintro _ q ⟨rfl,m⟩
 subst m
 simp only[go_sem,a]
 refine ways (λb=>?_) (λb=>?_)
 rotate_left
 ·have b:=xj b
  simp only[go_sem,a,b]
  (first | refine zd ?_ | refine ze ?_ (by rfl))<;>(simp only[go_sem,qF,a,b]<;>try rfl)
 have b:=xk b
 simp only[go_sem,a,b]
 refine ways (λc=>?_) (λc=>?_)
 rotate_left
 ·have c:=xj c
  simp only[go_sem,a,b,c]
  (first | refine zd ?_ | refine ze ?_ (by rfl))<;>(simp only[go_sem,qF,a,b,c]<;>try rfl)
 have c:=xk c
 simp only[go_sem,a,b,c]
 refine zc (c72 e.at_ 31449599 _) ?_
 rintro _ q ⟨rfl,m⟩
 subst m
 simp only[go_sem,a,b,c]
 refine ways (λd=>?_) (λd=>?_)
 ·simp only[go_sem]
  (first | refine zd ?_ | refine ze ?_ (by rfl))<;>(simp only[go_sem,qF,a,b,c,d]<;>try rfl)
 simp only[go_sem,g]
 refine vr 7 (jf (by decide) ?_)
 simp only[go_sem,g,i]
 refine ways (λf0=>?_) (λf0=>?_)
 ·simp only[go_sem]
  (first | refine zd ?_ | refine ze ?_ (by rfl))<;>(simp only[go_sem,qF,jY,f,a,b,c,d,f0]<;>try rfl)
 simp only[go_sem]
 refine jf (by decide) ?_
 simp only[go_sem,g,i]
 refine ways (λj=>?_) (λj=>?_)
 ·simp only[go_sem]
  (first | refine zd ?_ | refine ze ?_ (by rfl))<;>(simp only[go_sem,qF,jY,f,a,b,c,d,f0,j]<;>try rfl)
 simp only[go_sem]
 refine jf (by decide) ?_
 simp only[go_sem,g,i]
 refine ways (λk=>?_) (λk=>?_)
 ·simp only[go_sem]
  (first | refine zd ?_ | refine ze ?_ (by rfl))<;>(simp only[go_sem,qF,jY,f,a,b,c,d,f0,j,k]<;>try rfl)
 simp only[go_sem]
 refine jf (by decide) ?_
 simp only[go_sem,g,i]
 refine ways (λl=>?_) (λl=>?_)
 ·simp only[go_sem]
  (first | refine zd ?_ | refine ze ?_ (by rfl))<;>(simp only[go_sem,qF,jY,f,a,b,c,d,f0,j,k,l]<;>try rfl)
 simp only[go_sem]
 refine jf (by decide) ?_
 simp only[go_sem,g,i]
 refine ways (λn=>?_) (λn=>?_)
 ·simp only[go_sem]
  (first | refine zd ?_ | refine ze ?_ (by rfl))<;>(simp only[go_sem,qF,jY,f,a,b,c,d,f0,j,k,l,n]<;>try rfl)
 simp only[go_sem]
 refine jf (by decide) ?_
 simp only[go_sem,g,i]
 refine ways (λf5=>?_) (λf5=>?_)
 ·simp only[go_sem]
  (first | refine zd ?_ | refine ze ?_ (by rfl))<;>(simp only[go_sem,qF,jY,f,a,b,c,d,f0,j,k,l,n,f5]<;>try rfl)
 simp only[go_sem]
 refine jf (by decide) ?_
 simp only[go_sem]
 (first | refine zd ?_ | refine ze ?_ (by rfl))<;>(simp only[go_sem,qF,jY,f,a,b,c,d,f0,j,k,l,n,f5]<;>try rfl)
theorem Woa (e:Ev) (d:¬ e.kind=3) (i:e.kind=4):ji Tryz.prog 96 [evV e] (bl (qF e)):=λh=>by
 refine zf Tryz.f96 [.tmp 2] 54 rfl rfl rfl rfl rfl rfl (by decide) (⟨_,_,⟨rfl,rfl⟩,.refl⟩) λB=>?_
 simp only[go_sem]
 refine zc (c71 _ _ e (by simp only[go_sem])) ?_
 rintro _ m ⟨L,x,f,rfl,l⟩
 subst f
 have j:∀o,zq (h++(o::L)) x=some (kn h.length e.kind):=λo=>by
  have:=(l (h++[o]) (by simp)).rows
  rw[List.append_assoc] at this
  exact this
 have k:∀o,kn h.length e.kind≠[]->eOf (h++(o::L)) x=some 1:=λo n=>by
  have:=(l (h++[o]) (by simp)).ee n
  rw[List.append_assoc] at this
  exact this
 simp only[kn,d,i,if_true,if_false,ne_eq,reduceCtorEq,not_false_eq_true,true_implies] at j k
 simp only[go_sem]
 refine ways (λa=>?_) (λa=>?_)
 rotate_left
 ·have a:=xj a
  simp only[go_sem,a]
  (first | refine zd ?_ | refine ze ?_ (by rfl))<;>(simp only[go_sem,qF,a]<;>try rfl)
 have a:=xk a
 simp only[go_sem,a]
 refine zc (c72 e.id 100000 _) ?_
 rintro _ m ⟨rfl,f⟩
 subst f
 simp only[go_sem,a]
 refine ways (λb=>?_) (λb=>?_)
 rotate_left
 ·have b:=xj b
  simp only[go_sem,a,b]
  (first | refine zd ?_ | refine ze ?_ (by rfl))<;>(simp only[go_sem,qF,a,b]<;>try rfl)
 have b:=xk b
 simp only[go_sem,a,b]
 refine ways (λc=>?_) (λc=>?_)
 rotate_left
 ·have c:=xj c
  simp only[go_sem,a,b,c]
  (first | refine zd ?_ | refine ze ?_ (by rfl))<;>(simp only[go_sem,qF,a,b,c]<;>try rfl)
 have c:=xk c
 simp only[go_sem,a,b,c]
 refine zc (c72 e.at_ 31449599 _) ?_
 rintro _ m ⟨rfl,f⟩
 subst f
 simp only[go_sem,a,b,c]
 refine ways (λg=>?_) (λg=>?_)
 ·simp only[go_sem]
  (first | refine zd ?_ | refine ze ?_ (by rfl))<;>(simp only[go_sem,qF,a,b,c,g]<;>try rfl)
 simp only[go_sem,j]
 refine vr 2 (jf (by decide) ?_)
 simp only[go_sem,j,k]
 refine ways (λf0=>?_) (λf0=>?_)
 ·simp only[go_sem]
  (first | refine zd ?_ | refine ze ?_ (by rfl))<;>(simp only[go_sem,qF,jY,d,i,a,b,c,g,f0]<;>try rfl)
 simp only[go_sem]
 refine jf (by decide) ?_
 simp only[go_sem]
 (first | refine zd ?_ | refine ze ?_ (by rfl))<;>(simp only[go_sem,qF,jY,d,i,a,b,c,g,f0]<;>try rfl)
theorem Wpa (e:Ev) (f:¬ e.kind=3) (k:¬ e.kind=4):ji Tryz.prog 96 [evV e] (bl (qF e)):=λh=>by
 refine zf Tryz.f96 [.tmp 2] 54 rfl rfl rfl rfl rfl rfl (by decide) (⟨_,_,⟨rfl,rfl⟩,.refl⟩) λB=>?_
 simp only[go_sem]
 refine zc (c71 _ _ e (by simp only[go_sem])) ?_
 rintro _ j ⟨L,x,d,rfl,i⟩
 subst d
 have l:∀o,zq (h++(o::L)) x=some (kn h.length e.kind):=λo=>by
  have:=(i (h++[o]) (by simp)).rows
  rw[List.append_assoc] at this
  exact this
 have m:∀o,kn h.length e.kind≠[]->eOf (h++(o::L)) x=some 1:=λo n=>by
  have:=(i (h++[o]) (by simp)).ee n
  rw[List.append_assoc] at this
  exact this
 simp only[kn,f,k,if_true,if_false,ne_eq,reduceCtorEq,not_false_eq_true,true_implies] at l m
 simp only[go_sem]
 refine ways (λa=>?_) (λa=>?_)
 rotate_left
 ·have a:=xj a
  simp only[go_sem,a]
  (first | refine zd ?_ | refine ze ?_ (by rfl))<;>(simp only[go_sem,qF,a]<;>try rfl)
 have a:=xk a
 simp only[go_sem,a]
 refine zc (c72 e.id 100000 _) ?_
 rintro _ j ⟨rfl,d⟩
 subst d
 simp only[go_sem,a]
 refine ways (λb=>?_) (λb=>?_)
 rotate_left
 ·have b:=xj b
  simp only[go_sem,a,b]
  (first | refine zd ?_ | refine ze ?_ (by rfl))<;>(simp only[go_sem,qF,a,b]<;>try rfl)
 have b:=xk b
 simp only[go_sem,a,b]
 refine ways (λc=>?_) (λc=>?_)
 rotate_left
 ·have c:=xj c
  simp only[go_sem,a,b,c]
  (first | refine zd ?_ | refine ze ?_ (by rfl))<;>(simp only[go_sem,qF,a,b,c]<;>try rfl)
 have c:=xk c
 simp only[go_sem,a,b,c]
 refine zc (c72 e.at_ 31449599 _) ?_
 rintro _ j ⟨rfl,d⟩
 subst d
 simp only[go_sem,a,b,c]
 refine ways (λg=>?_) (λg=>?_)
 ·simp only[go_sem]
  (first | refine zd ?_ | refine ze ?_ (by rfl))<;>(simp only[go_sem,qF,a,b,c,g]<;>try rfl)
 simp only[go_sem,l]
 refine vr 1 (jf (by decide) ?_)
 simp only[go_sem]
 (first | refine zd ?_ | refine ze ?_ (by rfl))<;>(simp only[go_sem,qF,jY,f,k,a,b,c,g]<;>try rfl)
theorem c39 (e:Ev):ji Tryz.prog 96 [evV e] (bl (qF e)):=
 if h3:e.kind=3 then Wna e h3 else if h4:e.kind=4 then Woa e h3 h4 else Wpa e h3 h4
def Z9:List (Int × Int)->List (List AV)
 | []=>[]
 | p::r=>zz p.1::zz p.2::Z9 r
theorem Yx:∀(l:List (Int × Int)),(Z9 l).length=2*l.length
 | []=>rfl
 | p::r=>by simp[Z9,Yx r];omega
theorem Yy:∀(l:List (Int × Int)) (k:Nat) (a:k<l.length),(Z9 l)[2*k]? =some [i64 l[k].1]/\(Z9 l)[2*k+1]? =some [i64 l[k].2]
 | p::r,0,_=>⟨rfl,rfl⟩
 | p::r,k+1,a=>by
   have:=Yy r k (by simpa using a)
   rw[show 2*(k+1)=2*k+1+1 by omega]
   simpa [Z9] using this
def Zl (l:List (Int × Int)):Bool:=l.all λp=> !decide (p.1≥p.2)
theorem Kwa {k:Nat} (h:k<4611686018427387904):wr ((k:Int)+2)=((k+2:Nat):Int):=by rw[zI (by unfold Fit;omega)];rfl
theorem c38 (h:List Ob) (x:AV) (l:List (Int × Int)) (t:l.length<1099511627776) (c:SlOf h x 1 (Z9 l)):ACalls Tryz.prog 95 [x] h λr h'=>r=bl (Zl l)/\h'=h:=by
 have b:=Yx l
 refine zf Tryz.f95 [.tmp 2] 20 rfl rfl rfl rfl rfl rfl (by decide) (⟨_,_,⟨rfl,rfl⟩,.refl⟩) λB=>?_
 simp only[go_sem]
 refine zj (by decide) (λn T h'=>h'=h/\∃k:Nat,T 0=x/\T 3=i64 ((2*k:Nat):Int)/\k<=l.length/\(l.take k).all (λp=> !decide (p.1≥p.2))=true/\n=l.length - k) l.length
  ⟨rfl,0,by simp only[go_sem],by (simp only[go_sem]<;>rfl),by omega,rfl,rfl⟩ ?_
 rintro n T h' ⟨rfl,k,t0,t3,s,h0,rfl⟩
 simp only[go_sem,t0,t3,c.rows,b]
 refine ways (λf=>?_) (λf=>?_)
 ·have a:k<l.length:=by
   have:((2*k:Nat):Int)<((2*l.length:Nat):Int):=by simpa using f
   omega
  obtain ⟨j,o⟩:=Yy l k a
  have e:=c.at (i:=0) (by omega)
  have b0:((2*k:Nat):Int)<((2*l.length:Nat):Int):=by omega
  have b1:((2*k+1:Nat):Int)<((2*l.length:Nat):Int):=by omega
  have m:=jk (k:=2*k) (by omega)
  have q:=Kwa (k:=2*k) (by omega)
  simp only[go_sem]
  refine zn rfl [] 0 [(0,0,[]),(1,0,[]),(4,0,[]),(5,0,[]),(6,0,[]),(2,0,[]),(3,0,[]),(7,0,[]),(8,0,[]),(9,0,[])] rfl (by decide) (by decide) ?_
  simp only[go_sem,t0,t3,c.rows,b,e,j,o,b0,b1,m,Int.toNat_natCast,Int.natCast_nonneg]
  refine ways (λg=>?_) (λg=>?_)
  ·simp only[go_sem]
   have d:Zl l=false:=by
    unfold Zl
    rw[List.all_eq_false]
    exact ⟨l[k],List.getElem_mem a,by simp only[g];simp⟩
   (first | refine zd ?_ | refine ze ?_ (by rfl))<;>(simp only[go_sem,d]<;>try rfl)
  ·simp only[go_sem,t3,q]
   refine ⟨l.length - (k+1),by omega,k+1,t0,rfl,by omega,?_,rfl⟩
   rw[List.take_add_one,List.getElem?_eq_getElem a,List.all_append,h0]
   simp only[Option.toList_some,List.all_cons,List.all_nil,g,Bool.and_self,Bool.not_false]
 ·have a:k=l.length:=by
   have:¬ ((2*k:Nat):Int)<((2*l.length:Nat):Int):=by simpa using f
   omega
  rw[a,List.take_length] at h0
  simp only[go_sem]
  (first | refine zd ?_ | refine ze ?_ (by rfl))<;>(simp only[go_sem,Zl,h0]<;>try rfl)
def ko (s:Setup) (e:Ev):Bool:= !(!qF e) && (!(!Zl [(e.worker,s.rates.length)]) && (if e.kind=3 then Zl [(e.from_,s.places),(e.to_,s.places),(e.element,s.elements.length),(e.class_,s.classes.length),(e.gear,s.gears.length),(e.units,10001)] else if e.kind=4 then decide (e.code<=99) else true))
theorem c14 (h:List Ob) (s:Setup) (a:SA) (k:SIn h s a) (e:Ev):ACalls Tryz.prog 38 [z6 s a,evV e] h λr h'=>r=bl (ko s e)/\h'=h:=by
 refine zf Tryz.f38 [.tmp 4] 57 rfl rfl rfl rfl rfl rfl (by decide) (⟨_,_,⟨rfl,rfl⟩,.refl⟩) λB=>?_
 simp only[go_sem,k.w.one,k.e.one,k.c.one,k.g.one,k.r.one,k.t.one]
 refine zc (c39 e _) ?_
 rintro _ l ⟨rfl,j⟩
 subst j
 simp only[go_sem]
 refine ways (λb=>?_) (λb=>?_)
 rotate_left
 ·have b:=xj b
  simp only[go_sem,b]
  (first | refine zd ?_ | refine ze ?_ (by rfl))<;>(simp only[go_sem,ko,b]<;>try rfl)
 have b:=xk b
 simp only[go_sem,b,(k.app _).r.rows,List.length_map]
 refine zc (c38 _ _ [(e.worker,s.rates.length)] (by simp) ⟨by simp only[go_sem,Z9,zz],λ_=>by simp only[go_sem,Z9,zz]⟩) ?_
 rintro _ l ⟨rfl,j⟩
 subst j
 simp only[go_sem,b]
 refine ways (λi=>?_) (λi=>?_)
 ·simp only[go_sem]
  (first | refine zd ?_ | refine ze ?_ (by rfl))<;>(simp only[go_sem,ko,b,i]<;>try rfl)
 simp only[go_sem]
 by_cases d:e.kind=3
 ·simp only[go_sem,d,(k.app _).e.rows,(k.app _).c.rows,(k.app _).g.rows,List.length_map]
  refine zc (c38 _ _ [(e.from_,s.places),(e.to_,s.places),(e.element,s.elements.length),(e.class_,s.classes.length),(e.gear,s.gears.length),(e.units,10001)] (by simp) ⟨by simp only[go_sem,Z9,zz],λ_=>by simp only[go_sem,Z9,zz]⟩) ?_
  rintro _ l ⟨rfl,j⟩
  subst j
  simp only[go_sem]
  (first | refine zd ?_ | refine ze ?_ (by rfl))<;>(simp only[go_sem,ko,b,i,d]<;>try rfl)
 ·refine ways (λq=>absurd (by simpa using q) d) (λq=>?_)
  simp only[go_sem]
  by_cases f:e.kind=4
  ·refine ways (λq=>?_) (λq=>absurd f (by simpa using q))
   simp only[go_sem]
   (first | refine zd ?_ | refine ze ?_ (by rfl))<;>(simp only[go_sem,ko,b,i,d,f]<;>try rfl)
  ·refine ways (λq=>absurd (by simpa using q) f) (λq=>?_)
   simp only[go_sem]
   (first | refine zd ?_ | refine ze ?_ (by rfl))<;>(simp only[go_sem,ko,b,i,d,f]<;>try rfl)
end Go.Proofs.YtfmldcilgbbimaaGreat.Ax
