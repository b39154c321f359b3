/-
  Joined.
-/
import Derived.Test.YtfmldcilgbbimaaGreatK13
set_option linter.unusedSimpArgs false
set_option linter.unusedVariables false
namespace Go.Proofs.YtfmldcilgbbimaaGreat.Ax
open Go Go.Proofs
set_option maxRecDepth 100000
def jv (e:Ev):Bool:=if e.kind=3 then !decide (e.from_<0) && (!decide (e.to_<0) && (!decide (e.element<0) && (!decide (e.units<0) && (!decide (e.class_<0) && (!decide (e.gear<0) && e.code==0)))))
 else if e.kind=4 then !decide (e.code<0) && (e.from_==0 && (e.to_==0 && (e.element==0 && (e.units==0 && (e.class_==0 && e.gear==0)))))
 else e.from_==0 && (e.to_==0 && (e.element==0 && (e.units==0 && (e.class_==0 && (e.gear==0 && e.code==0)))))
def qp (e:Ev):Bool:= !(!QL e.kind) && (!(!wQ e.id 100000) && (!decide (e.worker<0) && (!(!wQ e.at_ 31449599) && jv e)))
theorem Qta (e:Ev) (g:e.kind=3):qX Tryz.prog 96 [evV e] (bl (qp e)):=λh=>by
 refine zf Tryz.f96 [.tmp 2] 54 rfl rfl rfl rfl rfl rfl (by decide) (⟨_,_,⟨rfl,rfl⟩,.refl⟩) λB=>?_
 simp only[go_sem]
 refine zd (c71 _ _ e (by simp only[go_sem])) ?_
 rintro _ q ⟨L,x,l,rfl,p⟩
 subst l
 have f:∀o,zo (h++(o::L)) x=some (xh h.length e.kind):=λo=>by
  have:=(p (h++[o]) (by simp)).rows
  rw[List.append_assoc] at this
  exact this
 have i:∀o,xh h.length e.kind≠[]->eOf (h++(o::L)) x=some 1:=λo r=>by
  have:=(p (h++[o]) (by simp)).ee r
  rw[List.append_assoc] at this
  exact this
 simp only[xh,g,if_true,if_false,ne_eq,reduceCtorEq,not_false_eq_true,true_implies] at f i
 simp only[go_sem]
 refine ways (λa=>?_) (λa=>?_)
 rotate_left
 ·have a:=jD a
  simp only[go_sem,a]
  (first | refine zc ?_ | refine ze ?_ (by rfl))<;>(simp only[go_sem,qp,a]<;>try rfl)
 have a:=jE a
 simp only[go_sem,a]
 refine zd (c72 e.id 100000 _) ?_
 rintro _ q ⟨rfl,l⟩
 subst l
 simp only[go_sem,a]
 refine ways (λb=>?_) (λb=>?_)
 rotate_left
 ·have b:=jD b
  simp only[go_sem,a,b]
  (first | refine zc ?_ | refine ze ?_ (by rfl))<;>(simp only[go_sem,qp,a,b]<;>try rfl)
 have b:=jE b
 simp only[go_sem,a,b]
 refine ways (λc=>?_) (λc=>?_)
 rotate_left
 ·have c:=jD c
  simp only[go_sem,a,b,c]
  (first | refine zc ?_ | refine ze ?_ (by rfl))<;>(simp only[go_sem,qp,a,b,c]<;>try rfl)
 have c:=jE c
 simp only[go_sem,a,b,c]
 refine zd (c72 e.at_ 31449599 _) ?_
 rintro _ q ⟨rfl,l⟩
 subst l
 simp only[go_sem,a,b,c]
 refine ways (λd=>?_) (λd=>?_)
 ·simp only[go_sem]
  (first | refine zc ?_ | refine ze ?_ (by rfl))<;>(simp only[go_sem,qp,a,b,c,d]<;>try rfl)
 simp only[go_sem,f]
 refine kr 7 (qL (by decide) ?_)
 simp only[go_sem,f,i]
 refine ways (λf0=>?_) (λf0=>?_)
 ·simp only[go_sem]
  (first | refine zc ?_ | refine ze ?_ (by rfl))<;>(simp only[go_sem,qp,jv,g,a,b,c,d,f0]<;>try rfl)
 simp only[go_sem]
 refine qL (by decide) ?_
 simp only[go_sem,f,i]
 refine ways (λj=>?_) (λj=>?_)
 ·simp only[go_sem]
  (first | refine zc ?_ | refine ze ?_ (by rfl))<;>(simp only[go_sem,qp,jv,g,a,b,c,d,f0,j]<;>try rfl)
 simp only[go_sem]
 refine qL (by decide) ?_
 simp only[go_sem,f,i]
 refine ways (λk=>?_) (λk=>?_)
 ·simp only[go_sem]
  (first | refine zc ?_ | refine ze ?_ (by rfl))<;>(simp only[go_sem,qp,jv,g,a,b,c,d,f0,j,k]<;>try rfl)
 simp only[go_sem]
 refine qL (by decide) ?_
 simp only[go_sem,f,i]
 refine ways (λm=>?_) (λm=>?_)
 ·simp only[go_sem]
  (first | refine zc ?_ | refine ze ?_ (by rfl))<;>(simp only[go_sem,qp,jv,g,a,b,c,d,f0,j,k,m]<;>try rfl)
 simp only[go_sem]
 refine qL (by decide) ?_
 simp only[go_sem,f,i]
 refine ways (λn=>?_) (λn=>?_)
 ·simp only[go_sem]
  (first | refine zc ?_ | refine ze ?_ (by rfl))<;>(simp only[go_sem,qp,jv,g,a,b,c,d,f0,j,k,m,n]<;>try rfl)
 simp only[go_sem]
 refine qL (by decide) ?_
 simp only[go_sem,f,i]
 refine ways (λf5=>?_) (λf5=>?_)
 ·simp only[go_sem]
  (first | refine zc ?_ | refine ze ?_ (by rfl))<;>(simp only[go_sem,qp,jv,g,a,b,c,d,f0,j,k,m,n,f5]<;>try rfl)
 simp only[go_sem]
 refine qL (by decide) ?_
 simp only[go_sem]
 (first | refine zc ?_ | refine ze ?_ (by rfl))<;>(simp only[go_sem,qp,jv,g,a,b,c,d,f0,j,k,m,n,f5]<;>try rfl)
theorem Qua (e:Ev) (d:¬ e.kind=3) (j:e.kind=4):qX Tryz.prog 96 [evV e] (bl (qp e)):=λh=>by
 refine zf Tryz.f96 [.tmp 2] 54 rfl rfl rfl rfl rfl rfl (by decide) (⟨_,_,⟨rfl,rfl⟩,.refl⟩) λB=>?_
 simp only[go_sem]
 refine zd (c71 _ _ e (by simp only[go_sem])) ?_
 rintro _ m ⟨L,x,f,rfl,l⟩
 subst f
 have i:∀o,zo (h++(o::L)) x=some (xh h.length e.kind):=λo=>by
  have:=(l (h++[o]) (by simp)).rows
  rw[List.append_assoc] at this
  exact this
 have k:∀o,xh h.length e.kind≠[]->eOf (h++(o::L)) x=some 1:=λo n=>by
  have:=(l (h++[o]) (by simp)).ee n
  rw[List.append_assoc] at this
  exact this
 simp only[xh,d,j,if_true,if_false,ne_eq,reduceCtorEq,not_false_eq_true,true_implies] at i k
 simp only[go_sem]
 refine ways (λa=>?_) (λa=>?_)
 rotate_left
 ·have a:=jD a
  simp only[go_sem,a]
  (first | refine zc ?_ | refine ze ?_ (by rfl))<;>(simp only[go_sem,qp,a]<;>try rfl)
 have a:=jE a
 simp only[go_sem,a]
 refine zd (c72 e.id 100000 _) ?_
 rintro _ m ⟨rfl,f⟩
 subst f
 simp only[go_sem,a]
 refine ways (λb=>?_) (λb=>?_)
 rotate_left
 ·have b:=jD b
  simp only[go_sem,a,b]
  (first | refine zc ?_ | refine ze ?_ (by rfl))<;>(simp only[go_sem,qp,a,b]<;>try rfl)
 have b:=jE b
 simp only[go_sem,a,b]
 refine ways (λc=>?_) (λc=>?_)
 rotate_left
 ·have c:=jD c
  simp only[go_sem,a,b,c]
  (first | refine zc ?_ | refine ze ?_ (by rfl))<;>(simp only[go_sem,qp,a,b,c]<;>try rfl)
 have c:=jE c
 simp only[go_sem,a,b,c]
 refine zd (c72 e.at_ 31449599 _) ?_
 rintro _ m ⟨rfl,f⟩
 subst f
 simp only[go_sem,a,b,c]
 refine ways (λg=>?_) (λg=>?_)
 ·simp only[go_sem]
  (first | refine zc ?_ | refine ze ?_ (by rfl))<;>(simp only[go_sem,qp,a,b,c,g]<;>try rfl)
 simp only[go_sem,i]
 refine kr 2 (qL (by decide) ?_)
 simp only[go_sem,i,k]
 refine ways (λf0=>?_) (λf0=>?_)
 ·simp only[go_sem]
  (first | refine zc ?_ | refine ze ?_ (by rfl))<;>(simp only[go_sem,qp,jv,d,j,a,b,c,g,f0]<;>try rfl)
 simp only[go_sem]
 refine qL (by decide) ?_
 simp only[go_sem]
 (first | refine zc ?_ | refine ze ?_ (by rfl))<;>(simp only[go_sem,qp,jv,d,j,a,b,c,g,f0]<;>try rfl)
theorem Qva (e:Ev) (f:¬ e.kind=3) (k:¬ e.kind=4):qX Tryz.prog 96 [evV e] (bl (qp e)):=λh=>by
 refine zf Tryz.f96 [.tmp 2] 54 rfl rfl rfl rfl rfl rfl (by decide) (⟨_,_,⟨rfl,rfl⟩,.refl⟩) λB=>?_
 simp only[go_sem]
 refine zd (c71 _ _ e (by simp only[go_sem])) ?_
 rintro _ l ⟨L,x,d,rfl,j⟩
 subst d
 have i:∀o,zo (h++(o::L)) x=some (xh h.length e.kind):=λo=>by
  have:=(j (h++[o]) (by simp)).rows
  rw[List.append_assoc] at this
  exact this
 have m:∀o,xh h.length e.kind≠[]->eOf (h++(o::L)) x=some 1:=λo n=>by
  have:=(j (h++[o]) (by simp)).ee n
  rw[List.append_assoc] at this
  exact this
 simp only[xh,f,k,if_true,if_false,ne_eq,reduceCtorEq,not_false_eq_true,true_implies] at i m
 simp only[go_sem]
 refine ways (λa=>?_) (λa=>?_)
 rotate_left
 ·have a:=jD a
  simp only[go_sem,a]
  (first | refine zc ?_ | refine ze ?_ (by rfl))<;>(simp only[go_sem,qp,a]<;>try rfl)
 have a:=jE a
 simp only[go_sem,a]
 refine zd (c72 e.id 100000 _) ?_
 rintro _ l ⟨rfl,d⟩
 subst d
 simp only[go_sem,a]
 refine ways (λb=>?_) (λb=>?_)
 rotate_left
 ·have b:=jD b
  simp only[go_sem,a,b]
  (first | refine zc ?_ | refine ze ?_ (by rfl))<;>(simp only[go_sem,qp,a,b]<;>try rfl)
 have b:=jE b
 simp only[go_sem,a,b]
 refine ways (λc=>?_) (λc=>?_)
 rotate_left
 ·have c:=jD c
  simp only[go_sem,a,b,c]
  (first | refine zc ?_ | refine ze ?_ (by rfl))<;>(simp only[go_sem,qp,a,b,c]<;>try rfl)
 have c:=jE c
 simp only[go_sem,a,b,c]
 refine zd (c72 e.at_ 31449599 _) ?_
 rintro _ l ⟨rfl,d⟩
 subst d
 simp only[go_sem,a,b,c]
 refine ways (λg=>?_) (λg=>?_)
 ·simp only[go_sem]
  (first | refine zc ?_ | refine ze ?_ (by rfl))<;>(simp only[go_sem,qp,a,b,c,g]<;>try rfl)
 simp only[go_sem,i]
 refine kr 1 (qL (by decide) ?_)
 simp only[go_sem]
 (first | refine zc ?_ | refine ze ?_ (by rfl))<;>(simp only[go_sem,qp,jv,f,k,a,b,c,g]<;>try rfl)
theorem c39 (e:Ev):qX Tryz.prog 96 [evV e] (bl (qp e)):=
 if h3:e.kind=3 then Qta e h3 else if h4:e.kind=4 then Qua e h3 h4 else Qva e h3 h4
def yK:List (Int × Int)->List (List AV)
 | []=>[]
 | p::r=>zH p.1::zH p.2::yK r
theorem KY:∀(l:List (Int × Int)),(yK l).length=2*l.length
 | []=>rfl
 | p::r=>by simp[yK,KY r];omega
theorem KZ:∀(l:List (Int × Int)) (k:Nat) (a:k<l.length),(yK l)[2*k]? =some [i64 l[k].1]/\(yK l)[2*k+1]? =some [i64 l[k].2]
 | p::r,0,_=>⟨rfl,rfl⟩
 | p::r,k+1,a=>by
   have:=KZ r k (by simpa using a)
   rw[show 2*(k+1)=2*k+1+1 by omega]
   simpa [yK] using this
def wW (l:List (Int × Int)):Bool:=l.all λp=> !decide (p.1≥p.2)
theorem y0a {k:Nat} (h:k<4611686018427387904):wr ((k:Int)+2)=((k+2:Nat):Int):=by rw[zt (by unfold Fit;omega)];rfl
theorem c38 (h:List Ob) (x:AV) (l:List (Int × Int)) (s:l.length<1099511627776) (d:SlOf h x 1 (yK l)):ACalls Tryz.prog 95 [x] h λr h'=>r=bl (wW l)/\h'=h:=by
 have b:=KY l
 refine zf Tryz.f95 [.tmp 2] 20 rfl rfl rfl rfl rfl rfl (by decide) (⟨_,_,⟨rfl,rfl⟩,.refl⟩) λB=>?_
 simp only[go_sem]
 refine zk (by decide) (λn T h'=>h'=h/\∃k:Nat,T 0=x/\T 3=i64 ((2*k:Nat):Int)/\k<=l.length/\(l.take k).all (λp=> !decide (p.1≥p.2))=true/\n=l.length - k) l.length
  ⟨rfl,0,by simp only[go_sem],by (simp only[go_sem]<;>rfl),by omega,rfl,rfl⟩ ?_
 rintro n T h' ⟨rfl,k,t0,t3,t,h0,rfl⟩
 simp only[go_sem,t0,t3,d.rows,b]
 refine ways (λf=>?_) (λf=>?_)
 ·have a:k<l.length:=by
   have:((2*k:Nat):Int)<((2*l.length:Nat):Int):=by simpa using f
   omega
  obtain ⟨m,j⟩:=KZ l k a
  have g:=d.at (i:=0) (by omega)
  have b0:((2*k:Nat):Int)<((2*l.length:Nat):Int):=by omega
  have b1:((2*k+1:Nat):Int)<((2*l.length:Nat):Int):=by omega
  have q:=jq (k:=2*k) (by omega)
  have o:=y0a (k:=2*k) (by omega)
  simp only[go_sem]
  refine zp rfl [] 0 [(0,0,[]),(1,0,[]),(4,0,[]),(5,0,[]),(6,0,[]),(2,0,[]),(3,0,[]),(7,0,[]),(8,0,[]),(9,0,[])] rfl (by decide) (by decide) ?_
  simp only[go_sem,t0,t3,d.rows,b,g,m,j,b0,b1,q,Int.toNat_natCast,Int.natCast_nonneg]
  refine ways (λc=>?_) (λc=>?_)
  ·simp only[go_sem]
   have e:wW l=false:=by
    unfold wW
    rw[List.all_eq_false]
    exact ⟨l[k],List.getElem_mem a,by simp only[c];simp⟩
   (first | refine zc ?_ | refine ze ?_ (by rfl))<;>(simp only[go_sem,e]<;>try rfl)
  ·simp only[go_sem,t3,o]
   refine ⟨l.length - (k+1),by omega,k+1,t0,rfl,by omega,?_,rfl⟩
   rw[List.take_add_one,List.getElem?_eq_getElem a,List.all_append,h0]
   simp only[Option.toList_some,List.all_cons,List.all_nil,c,Bool.and_self,Bool.not_false]
 ·have a:k=l.length:=by
   have:¬ ((2*k:Nat):Int)<((2*l.length:Nat):Int):=by simpa using f
   omega
  rw[a,List.take_length] at h0
  simp only[go_sem]
  (first | refine zc ?_ | refine ze ?_ (by rfl))<;>(simp only[go_sem,wW,h0]<;>try rfl)
def yL (s:Setup) (e:Ev):Bool:= !(!qp e) && (!(!wW [(e.worker,s.rates.length)]) && (if e.kind=3 then wW [(e.from_,s.places),(e.to_,s.places),(e.element,s.elements.length),(e.class_,s.classes.length),(e.gear,s.gears.length),(e.units,10001)] else if e.kind=4 then decide (e.code<=99) else true))
theorem c14 (h:List Ob) (s:Setup) (a:SA) (k:SIn h s a) (e:Ev):ACalls Tryz.prog 38 [qh s a,evV e] h λr h'=>r=bl (yL s e)/\h'=h:=by
 refine zf Tryz.f38 [.tmp 4] 57 rfl rfl rfl rfl rfl rfl (by decide) (⟨_,_,⟨rfl,rfl⟩,.refl⟩) λB=>?_
 simp only[go_sem,k.w.one,k.e.one,k.c.one,k.g.one,k.r.one,k.t.one]
 refine zd (c39 e _) ?_
 rintro _ l ⟨rfl,i⟩
 subst i
 simp only[go_sem]
 refine ways (λb=>?_) (λb=>?_)
 rotate_left
 ·have b:=jD b
  simp only[go_sem,b]
  (first | refine zc ?_ | refine ze ?_ (by rfl))<;>(simp only[go_sem,yL,b]<;>try rfl)
 have b:=jE b
 simp only[go_sem,b,(k.app _).r.rows,List.length_map]
 refine zd (c38 _ _ [(e.worker,s.rates.length)] (by simp) ⟨by simp only[go_sem,yK,zH],λ_=>by simp only[go_sem,yK,zH]⟩) ?_
 rintro _ l ⟨rfl,i⟩
 subst i
 simp only[go_sem,b]
 refine ways (λj=>?_) (λj=>?_)
 ·simp only[go_sem]
  (first | refine zc ?_ | refine ze ?_ (by rfl))<;>(simp only[go_sem,yL,b,j]<;>try rfl)
 simp only[go_sem]
 by_cases d:e.kind=3
 ·simp only[go_sem,d,(k.app _).e.rows,(k.app _).c.rows,(k.app _).g.rows,List.length_map]
  refine zd (c38 _ _ [(e.from_,s.places),(e.to_,s.places),(e.element,s.elements.length),(e.class_,s.classes.length),(e.gear,s.gears.length),(e.units,10001)] (by simp) ⟨by simp only[go_sem,yK,zH],λ_=>by simp only[go_sem,yK,zH]⟩) ?_
  rintro _ l ⟨rfl,i⟩
  subst i
  simp only[go_sem]
  (first | refine zc ?_ | refine ze ?_ (by rfl))<;>(simp only[go_sem,yL,b,j,d]<;>try rfl)
 ·refine ways (λq=>absurd (by simpa using q) d) (λq=>?_)
  simp only[go_sem]
  by_cases f:e.kind=4
  ·refine ways (λq=>?_) (λq=>absurd f (by simpa using q))
   simp only[go_sem]
   (first | refine zc ?_ | refine ze ?_ (by rfl))<;>(simp only[go_sem,yL,b,j,d,f]<;>try rfl)
  ·refine ways (λq=>absurd (by simpa using q) f) (λq=>?_)
   simp only[go_sem]
   (first | refine zc ?_ | refine ze ?_ (by rfl))<;>(simp only[go_sem,yL,b,j,d,f]<;>try rfl)
end Go.Proofs.YtfmldcilgbbimaaGreat.Ax
