/-
  Joined.
-/
import Derived.Test.YtigdlmpjijhpaaaGreatK13
set_option linter.unusedSimpArgs false
set_option linter.unusedVariables false
namespace Go.Proofs.YtigdlmpjijhpaaaGreat.Ax
open Go Go.Proofs
set_option maxRecDepth 100000
def jB (e:Ev):Bool:=if e.kind=3 then !decide (e.from_<0) && (!decide (e.to_<0) && (!decide (e.element<0) && (!decide (e.units<0) && (!decide (e.class_<0) && (!decide (e.gear<0) && e.code==0)))))
 else if e.kind=4 then !decide (e.code<0) && (e.from_==0 && (e.to_==0 && (e.element==0 && (e.units==0 && (e.class_==0 && e.gear==0)))))
 else e.from_==0 && (e.to_==0 && (e.element==0 && (e.units==0 && (e.class_==0 && (e.gear==0 && e.code==0)))))
def qu (e:Ev):Bool:= !(!QQ e.kind) && (!(!wX e.id 100000) && (!decide (e.worker<0) && (!(!wX e.at_ 31449599) && jB e)))
theorem QVa (e:Ev) (g:e.kind=3):jf Tryz.prog 113 [evV e] (bl (qu e)):=λh=>by
 refine zf Tryz.f113 [.tmp 2] 54 rfl rfl rfl rfl rfl rfl (by decide) (⟨_,_,⟨rfl,rfl⟩,.refl⟩) λB=>?_
 simp only[go_sem]
 refine zd (c71 _ _ e (by simp only[go_sem])) ?_
 rintro _ p ⟨L,x,m,rfl,q⟩
 subst m
 have f:∀o,zo (h++(o::L)) x=some (xm h.length e.kind):=λo=>by
  have:=(q (h++[o]) (by simp)).rows
  rw[List.append_assoc] at this
  exact this
 have j:∀o,xm h.length e.kind≠[]->eOf (h++(o::L)) x=some 1:=λo r=>by
  have:=(q (h++[o]) (by simp)).ee r
  rw[List.append_assoc] at this
  exact this
 simp only[xm,g,if_true,if_false,ne_eq,reduceCtorEq,not_false_eq_true,true_implies] at f j
 simp only[go_sem]
 refine ways (λa=>?_) (λa=>?_)
 rotate_left
 ·have a:=jL a
  simp only[go_sem,a]
  (first | refine zc ?_ | refine ze ?_ (by rfl))<;>(simp only[go_sem,qu,a]<;>try rfl)
 have a:=jM a
 simp only[go_sem,a]
 refine zd (c72 e.id 100000 _) ?_
 rintro _ p ⟨rfl,m⟩
 subst m
 simp only[go_sem,a]
 refine ways (λb=>?_) (λb=>?_)
 rotate_left
 ·have b:=jL b
  simp only[go_sem,a,b]
  (first | refine zc ?_ | refine ze ?_ (by rfl))<;>(simp only[go_sem,qu,a,b]<;>try rfl)
 have b:=jM b
 simp only[go_sem,a,b]
 refine ways (λc=>?_) (λc=>?_)
 rotate_left
 ·have c:=jL c
  simp only[go_sem,a,b,c]
  (first | refine zc ?_ | refine ze ?_ (by rfl))<;>(simp only[go_sem,qu,a,b,c]<;>try rfl)
 have c:=jM c
 simp only[go_sem,a,b,c]
 refine zd (c72 e.at_ 31449599 _) ?_
 rintro _ p ⟨rfl,m⟩
 subst m
 simp only[go_sem,a,b,c]
 refine ways (λd=>?_) (λd=>?_)
 ·simp only[go_sem]
  (first | refine zc ?_ | refine ze ?_ (by rfl))<;>(simp only[go_sem,qu,a,b,c,d]<;>try rfl)
 simp only[go_sem,f]
 refine ky 7 (qT (by decide) ?_)
 simp only[go_sem,f,j]
 refine ways (λf0=>?_) (λf0=>?_)
 ·simp only[go_sem]
  (first | refine zc ?_ | refine ze ?_ (by rfl))<;>(simp only[go_sem,qu,jB,g,a,b,c,d,f0]<;>try rfl)
 simp only[go_sem]
 refine qT (by decide) ?_
 simp only[go_sem,f,j]
 refine ways (λi=>?_) (λi=>?_)
 ·simp only[go_sem]
  (first | refine zc ?_ | refine ze ?_ (by rfl))<;>(simp only[go_sem,qu,jB,g,a,b,c,d,f0,i]<;>try rfl)
 simp only[go_sem]
 refine qT (by decide) ?_
 simp only[go_sem,f,j]
 refine ways (λk=>?_) (λk=>?_)
 ·simp only[go_sem]
  (first | refine zc ?_ | refine ze ?_ (by rfl))<;>(simp only[go_sem,qu,jB,g,a,b,c,d,f0,i,k]<;>try rfl)
 simp only[go_sem]
 refine qT (by decide) ?_
 simp only[go_sem,f,j]
 refine ways (λl=>?_) (λl=>?_)
 ·simp only[go_sem]
  (first | refine zc ?_ | refine ze ?_ (by rfl))<;>(simp only[go_sem,qu,jB,g,a,b,c,d,f0,i,k,l]<;>try rfl)
 simp only[go_sem]
 refine qT (by decide) ?_
 simp only[go_sem,f,j]
 refine ways (λn=>?_) (λn=>?_)
 ·simp only[go_sem]
  (first | refine zc ?_ | refine ze ?_ (by rfl))<;>(simp only[go_sem,qu,jB,g,a,b,c,d,f0,i,k,l,n]<;>try rfl)
 simp only[go_sem]
 refine qT (by decide) ?_
 simp only[go_sem,f,j]
 refine ways (λf5=>?_) (λf5=>?_)
 ·simp only[go_sem]
  (first | refine zc ?_ | refine ze ?_ (by rfl))<;>(simp only[go_sem,qu,jB,g,a,b,c,d,f0,i,k,l,n,f5]<;>try rfl)
 simp only[go_sem]
 refine qT (by decide) ?_
 simp only[go_sem]
 (first | refine zc ?_ | refine ze ?_ (by rfl))<;>(simp only[go_sem,qu,jB,g,a,b,c,d,f0,i,k,l,n,f5]<;>try rfl)
theorem QWa (e:Ev) (d:¬ e.kind=3) (j:e.kind=4):jf Tryz.prog 113 [evV e] (bl (qu e)):=λh=>by
 refine zf Tryz.f113 [.tmp 2] 54 rfl rfl rfl rfl rfl rfl (by decide) (⟨_,_,⟨rfl,rfl⟩,.refl⟩) λB=>?_
 simp only[go_sem]
 refine zd (c71 _ _ e (by simp only[go_sem])) ?_
 rintro _ k ⟨L,x,f,rfl,l⟩
 subst f
 have i:∀o,zo (h++(o::L)) x=some (xm h.length e.kind):=λo=>by
  have:=(l (h++[o]) (by simp)).rows
  rw[List.append_assoc] at this
  exact this
 have m:∀o,xm h.length e.kind≠[]->eOf (h++(o::L)) x=some 1:=λo n=>by
  have:=(l (h++[o]) (by simp)).ee n
  rw[List.append_assoc] at this
  exact this
 simp only[xm,d,j,if_true,if_false,ne_eq,reduceCtorEq,not_false_eq_true,true_implies] at i m
 simp only[go_sem]
 refine ways (λa=>?_) (λa=>?_)
 rotate_left
 ·have a:=jL a
  simp only[go_sem,a]
  (first | refine zc ?_ | refine ze ?_ (by rfl))<;>(simp only[go_sem,qu,a]<;>try rfl)
 have a:=jM a
 simp only[go_sem,a]
 refine zd (c72 e.id 100000 _) ?_
 rintro _ k ⟨rfl,f⟩
 subst f
 simp only[go_sem,a]
 refine ways (λb=>?_) (λb=>?_)
 rotate_left
 ·have b:=jL b
  simp only[go_sem,a,b]
  (first | refine zc ?_ | refine ze ?_ (by rfl))<;>(simp only[go_sem,qu,a,b]<;>try rfl)
 have b:=jM b
 simp only[go_sem,a,b]
 refine ways (λc=>?_) (λc=>?_)
 rotate_left
 ·have c:=jL c
  simp only[go_sem,a,b,c]
  (first | refine zc ?_ | refine ze ?_ (by rfl))<;>(simp only[go_sem,qu,a,b,c]<;>try rfl)
 have c:=jM c
 simp only[go_sem,a,b,c]
 refine zd (c72 e.at_ 31449599 _) ?_
 rintro _ k ⟨rfl,f⟩
 subst f
 simp only[go_sem,a,b,c]
 refine ways (λg=>?_) (λg=>?_)
 ·simp only[go_sem]
  (first | refine zc ?_ | refine ze ?_ (by rfl))<;>(simp only[go_sem,qu,a,b,c,g]<;>try rfl)
 simp only[go_sem,i]
 refine ky 2 (qT (by decide) ?_)
 simp only[go_sem,i,m]
 refine ways (λf0=>?_) (λf0=>?_)
 ·simp only[go_sem]
  (first | refine zc ?_ | refine ze ?_ (by rfl))<;>(simp only[go_sem,qu,jB,d,j,a,b,c,g,f0]<;>try rfl)
 simp only[go_sem]
 refine qT (by decide) ?_
 simp only[go_sem]
 (first | refine zc ?_ | refine ze ?_ (by rfl))<;>(simp only[go_sem,qu,jB,d,j,a,b,c,g,f0]<;>try rfl)
theorem QXa (e:Ev) (f:¬ e.kind=3) (l:¬ e.kind=4):jf Tryz.prog 113 [evV e] (bl (qu e)):=λh=>by
 refine zf Tryz.f113 [.tmp 2] 54 rfl rfl rfl rfl rfl rfl (by decide) (⟨_,_,⟨rfl,rfl⟩,.refl⟩) λB=>?_
 simp only[go_sem]
 refine zd (c71 _ _ e (by simp only[go_sem])) ?_
 rintro _ i ⟨L,x,d,rfl,k⟩
 subst d
 have j:∀o,zo (h++(o::L)) x=some (xm h.length e.kind):=λo=>by
  have:=(k (h++[o]) (by simp)).rows
  rw[List.append_assoc] at this
  exact this
 have m:∀o,xm h.length e.kind≠[]->eOf (h++(o::L)) x=some 1:=λo n=>by
  have:=(k (h++[o]) (by simp)).ee n
  rw[List.append_assoc] at this
  exact this
 simp only[xm,f,l,if_true,if_false,ne_eq,reduceCtorEq,not_false_eq_true,true_implies] at j m
 simp only[go_sem]
 refine ways (λa=>?_) (λa=>?_)
 rotate_left
 ·have a:=jL a
  simp only[go_sem,a]
  (first | refine zc ?_ | refine ze ?_ (by rfl))<;>(simp only[go_sem,qu,a]<;>try rfl)
 have a:=jM a
 simp only[go_sem,a]
 refine zd (c72 e.id 100000 _) ?_
 rintro _ i ⟨rfl,d⟩
 subst d
 simp only[go_sem,a]
 refine ways (λb=>?_) (λb=>?_)
 rotate_left
 ·have b:=jL b
  simp only[go_sem,a,b]
  (first | refine zc ?_ | refine ze ?_ (by rfl))<;>(simp only[go_sem,qu,a,b]<;>try rfl)
 have b:=jM b
 simp only[go_sem,a,b]
 refine ways (λc=>?_) (λc=>?_)
 rotate_left
 ·have c:=jL c
  simp only[go_sem,a,b,c]
  (first | refine zc ?_ | refine ze ?_ (by rfl))<;>(simp only[go_sem,qu,a,b,c]<;>try rfl)
 have c:=jM c
 simp only[go_sem,a,b,c]
 refine zd (c72 e.at_ 31449599 _) ?_
 rintro _ i ⟨rfl,d⟩
 subst d
 simp only[go_sem,a,b,c]
 refine ways (λg=>?_) (λg=>?_)
 ·simp only[go_sem]
  (first | refine zc ?_ | refine ze ?_ (by rfl))<;>(simp only[go_sem,qu,a,b,c,g]<;>try rfl)
 simp only[go_sem,j]
 refine ky 1 (qT (by decide) ?_)
 simp only[go_sem]
 (first | refine zc ?_ | refine ze ?_ (by rfl))<;>(simp only[go_sem,qu,jB,f,l,a,b,c,g]<;>try rfl)
theorem c39 (e:Ev):jf Tryz.prog 113 [evV e] (bl (qu e)):=
 if h3:e.kind=3 then QVa e h3 else if h4:e.kind=4 then QWa e h3 h4 else QXa e h3 h4
def yQ:List (Int × Int)->List (List AV)
 | []=>[]
 | p::r=>zJ p.1::zJ p.2::yQ r
theorem K4:∀(l:List (Int × Int)),(yQ l).length=2*l.length
 | []=>rfl
 | p::r=>by simp[yQ,K4 r];omega
theorem K5:∀(l:List (Int × Int)) (k:Nat) (a:k<l.length),(yQ l)[2*k]? =some [i64 l[k].1]/\(yQ l)[2*k+1]? =some [i64 l[k].2]
 | p::r,0,_=>⟨rfl,rfl⟩
 | p::r,k+1,a=>by
   have:=K5 r k (by simpa using a)
   rw[show 2*(k+1)=2*k+1+1 by omega]
   simpa [yQ] using this
def yc (l:List (Int × Int)):Bool:=l.all λp=> !decide (p.1≥p.2)
theorem Zpa {k:Nat} (h:k<4611686018427387904):wr ((k:Int)+2)=((k+2:Nat):Int):=by rw[zF (by unfold Fit;omega)];rfl
theorem c38 (h:List Ob) (x:AV) (l:List (Int × Int)) (t:l.length<1099511627776) (g:SlOf h x 1 (yQ l)):ACalls Tryz.prog 112 [x] h λr h'=>r=bl (yc l)/\h'=h:=by
 have b:=K4 l
 refine zf Tryz.f112 [.tmp 2] 20 rfl rfl rfl rfl rfl rfl (by decide) (⟨_,_,⟨rfl,rfl⟩,.refl⟩) λB=>?_
 simp only[go_sem]
 refine zk (by decide) (λn T h'=>h'=h/\∃k:Nat,T 0=x/\T 3=i64 ((2*k:Nat):Int)/\k<=l.length/\(l.take k).all (λp=> !decide (p.1≥p.2))=true/\n=l.length - k) l.length
  ⟨rfl,0,by simp only[go_sem],by (simp only[go_sem]<;>rfl),by omega,rfl,rfl⟩ ?_
 rintro n T h' ⟨rfl,k,t0,t3,s,h0,rfl⟩
 simp only[go_sem,t0,t3,g.rows,b]
 refine ways (λf=>?_) (λf=>?_)
 ·have a:k<l.length:=by
   have:((2*k:Nat):Int)<((2*l.length:Nat):Int):=by simpa using f
   omega
  obtain ⟨o,m⟩:=K5 l k a
  have d:=g.at (i:=0) (by omega)
  have b0:((2*k:Nat):Int)<((2*l.length:Nat):Int):=by omega
  have b1:((2*k+1:Nat):Int)<((2*l.length:Nat):Int):=by omega
  have j:=jv (k:=2*k) (by omega)
  have q:=Zpa (k:=2*k) (by omega)
  simp only[go_sem]
  refine zp rfl [] 0 [(0,0,[]),(1,0,[]),(4,0,[]),(5,0,[]),(6,0,[]),(2,0,[]),(3,0,[]),(7,0,[]),(8,0,[]),(9,0,[])] rfl (by decide) (by decide) ?_
  simp only[go_sem,t0,t3,g.rows,b,d,o,m,b0,b1,j,Int.toNat_natCast,Int.natCast_nonneg]
  refine ways (λe=>?_) (λe=>?_)
  ·simp only[go_sem]
   have c:yc l=false:=by
    unfold yc
    rw[List.all_eq_false]
    exact ⟨l[k],List.getElem_mem a,by simp only[e];simp⟩
   (first | refine zc ?_ | refine ze ?_ (by rfl))<;>(simp only[go_sem,c]<;>try rfl)
  ·simp only[go_sem,t3,q]
   refine ⟨l.length - (k+1),by omega,k+1,t0,rfl,by omega,?_,rfl⟩
   rw[List.take_add_one,List.getElem?_eq_getElem a,List.all_append,h0]
   simp only[Option.toList_some,List.all_cons,List.all_nil,e,Bool.and_self,Bool.not_false]
 ·have a:k=l.length:=by
   have:¬ ((2*k:Nat):Int)<((2*l.length:Nat):Int):=by simpa using f
   omega
  rw[a,List.take_length] at h0
  simp only[go_sem]
  (first | refine zc ?_ | refine ze ?_ (by rfl))<;>(simp only[go_sem,yc,h0]<;>try rfl)
def yR (s:Setup) (e:Ev):Bool:= !(!qu e) && (!(!yc [(e.worker,s.rates.length)]) && (if e.kind=3 then yc [(e.from_,s.places),(e.to_,s.places),(e.element,s.elements.length),(e.class_,s.classes.length),(e.gear,s.gears.length),(e.units,10001)] else if e.kind=4 then decide (e.code<=99) else true))
theorem c14 (h:List Ob) (s:Setup) (a:SA) (k:SIn h s a) (e:Ev):ACalls Tryz.prog 55 [qj s a,evV e] h λr h'=>r=bl (yR s e)/\h'=h:=by
 refine zf Tryz.f55 [.tmp 4] 57 rfl rfl rfl rfl rfl rfl (by decide) (⟨_,_,⟨rfl,rfl⟩,.refl⟩) λB=>?_
 simp only[go_sem,k.w.one,k.e.one,k.c.one,k.g.one,k.r.one,k.t.one]
 refine zd (c39 e _) ?_
 rintro _ l ⟨rfl,j⟩
 subst j
 simp only[go_sem]
 refine ways (λb=>?_) (λb=>?_)
 rotate_left
 ·have b:=jL b
  simp only[go_sem,b]
  (first | refine zc ?_ | refine ze ?_ (by rfl))<;>(simp only[go_sem,yR,b]<;>try rfl)
 have b:=jM b
 simp only[go_sem,b,(k.app _).r.rows,List.length_map]
 refine zd (c38 _ _ [(e.worker,s.rates.length)] (by simp) ⟨by simp only[go_sem,yQ,zJ],λ_=>by simp only[go_sem,yQ,zJ]⟩) ?_
 rintro _ l ⟨rfl,j⟩
 subst j
 simp only[go_sem,b]
 refine ways (λi=>?_) (λi=>?_)
 ·simp only[go_sem]
  (first | refine zc ?_ | refine ze ?_ (by rfl))<;>(simp only[go_sem,yR,b,i]<;>try rfl)
 simp only[go_sem]
 by_cases d:e.kind=3
 ·simp only[go_sem,d,(k.app _).e.rows,(k.app _).c.rows,(k.app _).g.rows,List.length_map]
  refine zd (c38 _ _ [(e.from_,s.places),(e.to_,s.places),(e.element,s.elements.length),(e.class_,s.classes.length),(e.gear,s.gears.length),(e.units,10001)] (by simp) ⟨by simp only[go_sem,yQ,zJ],λ_=>by simp only[go_sem,yQ,zJ]⟩) ?_
  rintro _ l ⟨rfl,j⟩
  subst j
  simp only[go_sem]
  (first | refine zc ?_ | refine ze ?_ (by rfl))<;>(simp only[go_sem,yR,b,i,d]<;>try rfl)
 ·refine ways (λq=>absurd (by simpa using q) d) (λq=>?_)
  simp only[go_sem]
  by_cases f:e.kind=4
  ·refine ways (λq=>?_) (λq=>absurd f (by simpa using q))
   simp only[go_sem]
   (first | refine zc ?_ | refine ze ?_ (by rfl))<;>(simp only[go_sem,yR,b,i,d,f]<;>try rfl)
  ·refine ways (λq=>absurd (by simpa using q) f) (λq=>?_)
   simp only[go_sem]
   (first | refine zc ?_ | refine ze ?_ (by rfl))<;>(simp only[go_sem,yR,b,i,d,f]<;>try rfl)
end Go.Proofs.YtigdlmpjijhpaaaGreat.Ax
