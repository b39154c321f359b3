import Derived.Test.YtigdlmpjijhpaaaGreatKA
import Derived.Test.YtigdlmpjijhpaaaGreatK13
set_option linter.all false
namespace Go.Proofs.YtigdlmpjijhpaaaGreat.Ax
open Go Go.Proofs
set_option maxRecDepth 100000
def kW(e:Ev):Bool:=if e.kind=3 then !decide (e.from_<0) && (!decide (e.to_<0) && (!decide (e.element<0) && (!decide (e.units<0) && (!decide (e.class_<0) && (!decide (e.gear<0) && e.code==0)))))
 else if e.kind=4 then !decide (e.code<0) && (e.from_==0 && (e.to_==0 && (e.element==0 && (e.units==0 && (e.class_==0 && e.gear==0)))))
 else e.from_==0 && (e.to_==0 && (e.element==0 && (e.units==0 && (e.class_==0 && (e.gear==0 && e.code==0)))))
def jP(e:Ev):Bool:= !(!VJ e.kind) && (!(!Q2 e.id 100000) && (!decide (e.worker<0) && (!(!Q2 e.at_ 31449599) && kW e)))
theorem jab(e:Ev)(g:e.kind=3):xy Tryz.prog 113 [evV e] (bl (jP e)):=λh=>by
 refine zj Tryz.f113 [.tmp 2] 54 rfl rfl rfl rfl rfl rfl (by decide) (⟨_,_,⟨rfl,rfl⟩,.refl⟩) λB=>?_
 simp only[go_sem]
 refine zh (c71 _ _ e (by simp only[go_sem])) ?_
 rintro _ q ⟨L,x,m,rfl,p⟩
 subst m
 have f:∀o,qc (h++(o::L)) x=some (wh h.length e.kind):=λo=>by
  have:=(p (h++[o]) (by simp)).rows
  rw[zr] at this
  exact this
 have i:∀o,wh h.length e.kind≠[]->eOf (h++(o::L)) x=some 1:=λo r=>by
  have:=(p (h++[o]) (by simp)).ee r
  rw[zr] at this
  exact this
 simp only[wh,g,if_true,if_false,ne_eq,reduceCtorEq,not_false_eq_true,true_implies] at f i
 simp only[go_sem]
 refine ways (λa=>?_) (λa=>?_)
 rotate_left
 ·have a:=vo a
  simp only[go_sem,a]
  refine zn ?_<;>(simp only[go_sem,jP,a]<;>try rfl)
 have a:=vp a
 simp only[go_sem,a]
 refine zh (c72 e.id 100000 _) ?_
 rintro _ q ⟨rfl,m⟩
 subst m
 simp only[go_sem,a]
 refine ways (λb=>?_) (λb=>?_)
 rotate_left
 ·have b:=vo b
  simp only[go_sem,a,b]
  refine zn ?_<;>(simp only[go_sem,jP,a,b]<;>try rfl)
 have b:=vp b
 simp only[go_sem,a,b]
 refine ways (λc=>?_) (λc=>?_)
 rotate_left
 ·have c:=vo c
  simp only[go_sem,a,b,c]
  refine zn ?_<;>(simp only[go_sem,jP,a,b,c]<;>try rfl)
 have c:=vp c
 simp only[go_sem,a,b,c]
 refine zh (c72 e.at_ 31449599 _) ?_
 rintro _ q ⟨rfl,m⟩
 subst m
 simp only[go_sem,a,b,c]
 refine ways (λd=>?_) (λd=>?_)
 ·simp only[go_sem]
  refine zn ?_<;>(simp only[go_sem,jP,a,b,c,d]<;>try rfl)
 simp only[go_sem,f]
 refine yy 7 (xz (by decide) ?_)
 simp only[go_sem,f,i]
 refine ways (λf0=>?_) (λf0=>?_)
 ·simp only[go_sem]
  refine zn ?_<;>(simp only[go_sem,jP,kW,g,a,b,c,d,f0]<;>try rfl)
 simp only[go_sem]
 refine xz (by decide) ?_
 simp only[go_sem,f,i]
 refine ways (λj=>?_) (λj=>?_)
 ·simp only[go_sem]
  refine zn ?_<;>(simp only[go_sem,jP,kW,g,a,b,c,d,f0,j]<;>try rfl)
 simp only[go_sem]
 refine xz (by decide) ?_
 simp only[go_sem,f,i]
 refine ways (λk=>?_) (λk=>?_)
 ·simp only[go_sem]
  refine zn ?_<;>(simp only[go_sem,jP,kW,g,a,b,c,d,f0,j,k]<;>try rfl)
 simp only[go_sem]
 refine xz (by decide) ?_
 simp only[go_sem,f,i]
 refine ways (λl=>?_) (λl=>?_)
 ·simp only[go_sem]
  refine zn ?_<;>(simp only[go_sem,jP,kW,g,a,b,c,d,f0,j,k,l]<;>try rfl)
 simp only[go_sem]
 refine xz (by decide) ?_
 simp only[go_sem,f,i]
 refine ways (λn=>?_) (λn=>?_)
 ·simp only[go_sem]
  refine zn ?_<;>(simp only[go_sem,jP,kW,g,a,b,c,d,f0,j,k,l,n]<;>try rfl)
 simp only[go_sem]
 refine xz (by decide) ?_
 simp only[go_sem,f,i]
 refine ways (λf5=>?_) (λf5=>?_)
 ·simp only[go_sem]
  refine zn ?_<;>(simp only[go_sem,jP,kW,g,a,b,c,d,f0,j,k,l,n,f5]<;>try rfl)
 simp only[go_sem]
 refine xz (by decide) ?_
 simp only[go_sem]
 refine zn ?_<;>(simp only[go_sem,jP,kW,g,a,b,c,d,f0,j,k,l,n,f5]<;>try rfl)
theorem jbb(e:Ev)(d:¬ e.kind=3)(j:e.kind=4):xy Tryz.prog 113 [evV e] (bl (jP e)):=λh=>by
 refine zj Tryz.f113 [.tmp 2] 54 rfl rfl rfl rfl rfl rfl (by decide) (⟨_,_,⟨rfl,rfl⟩,.refl⟩) λB=>?_
 simp only[go_sem]
 refine zh (c71 _ _ e (by simp only[go_sem])) ?_
 rintro _ m ⟨L,x,f,rfl,k⟩
 subst f
 have i:∀o,qc (h++(o::L)) x=some (wh h.length e.kind):=λo=>by
  have:=(k (h++[o]) (by simp)).rows
  rw[zr] at this
  exact this
 have l:∀o,wh h.length e.kind≠[]->eOf (h++(o::L)) x=some 1:=λo n=>by
  have:=(k (h++[o]) (by simp)).ee n
  rw[zr] at this
  exact this
 simp only[wh,d,j,if_true,if_false,ne_eq,reduceCtorEq,not_false_eq_true,true_implies] at i l
 simp only[go_sem]
 refine ways (λa=>?_) (λa=>?_)
 rotate_left
 ·have a:=vo a
  simp only[go_sem,a]
  refine zn ?_<;>(simp only[go_sem,jP,a]<;>try rfl)
 have a:=vp a
 simp only[go_sem,a]
 refine zh (c72 e.id 100000 _) ?_
 rintro _ m ⟨rfl,f⟩
 subst f
 simp only[go_sem,a]
 refine ways (λb=>?_) (λb=>?_)
 rotate_left
 ·have b:=vo b
  simp only[go_sem,a,b]
  refine zn ?_<;>(simp only[go_sem,jP,a,b]<;>try rfl)
 have b:=vp b
 simp only[go_sem,a,b]
 refine ways (λc=>?_) (λc=>?_)
 rotate_left
 ·have c:=vo c
  simp only[go_sem,a,b,c]
  refine zn ?_<;>(simp only[go_sem,jP,a,b,c]<;>try rfl)
 have c:=vp c
 simp only[go_sem,a,b,c]
 refine zh (c72 e.at_ 31449599 _) ?_
 rintro _ m ⟨rfl,f⟩
 subst f
 simp only[go_sem,a,b,c]
 refine ways (λg=>?_) (λg=>?_)
 ·simp only[go_sem]
  refine zn ?_<;>(simp only[go_sem,jP,a,b,c,g]<;>try rfl)
 simp only[go_sem,i]
 refine yy 2 (xz (by decide) ?_)
 simp only[go_sem,i,l]
 refine ways (λf0=>?_) (λf0=>?_)
 ·simp only[go_sem]
  refine zn ?_<;>(simp only[go_sem,jP,kW,d,j,a,b,c,g,f0]<;>try rfl)
 simp only[go_sem]
 refine xz (by decide) ?_
 simp only[go_sem]
 refine zn ?_<;>(simp only[go_sem,jP,kW,d,j,a,b,c,g,f0]<;>try rfl)
theorem jcb(e:Ev)(f:¬ e.kind=3)(l:¬ e.kind=4):xy Tryz.prog 113 [evV e] (bl (jP e)):=λh=>by
 refine zj Tryz.f113 [.tmp 2] 54 rfl rfl rfl rfl rfl rfl (by decide) (⟨_,_,⟨rfl,rfl⟩,.refl⟩) λB=>?_
 simp only[go_sem]
 refine zh (c71 _ _ e (by simp only[go_sem])) ?_
 rintro _ k ⟨L,x,d,rfl,i⟩
 subst d
 have j:∀o,qc (h++(o::L)) x=some (wh h.length e.kind):=λo=>by
  have:=(i (h++[o]) (by simp)).rows
  rw[zr] at this
  exact this
 have n:∀o,wh h.length e.kind≠[]->eOf (h++(o::L)) x=some 1:=λo m=>by
  have:=(i (h++[o]) (by simp)).ee m
  rw[zr] at this
  exact this
 simp only[wh,f,l,if_true,if_false,ne_eq,reduceCtorEq,not_false_eq_true,true_implies] at j n
 simp only[go_sem]
 refine ways (λa=>?_) (λa=>?_)
 rotate_left
 ·have a:=vo a
  simp only[go_sem,a]
  refine zn ?_<;>(simp only[go_sem,jP,a]<;>try rfl)
 have a:=vp a
 simp only[go_sem,a]
 refine zh (c72 e.id 100000 _) ?_
 rintro _ k ⟨rfl,d⟩
 subst d
 simp only[go_sem,a]
 refine ways (λb=>?_) (λb=>?_)
 rotate_left
 ·have b:=vo b
  simp only[go_sem,a,b]
  refine zn ?_<;>(simp only[go_sem,jP,a,b]<;>try rfl)
 have b:=vp b
 simp only[go_sem,a,b]
 refine ways (λc=>?_) (λc=>?_)
 rotate_left
 ·have c:=vo c
  simp only[go_sem,a,b,c]
  refine zn ?_<;>(simp only[go_sem,jP,a,b,c]<;>try rfl)
 have c:=vp c
 simp only[go_sem,a,b,c]
 refine zh (c72 e.at_ 31449599 _) ?_
 rintro _ k ⟨rfl,d⟩
 subst d
 simp only[go_sem,a,b,c]
 refine ways (λg=>?_) (λg=>?_)
 ·simp only[go_sem]
  refine zn ?_<;>(simp only[go_sem,jP,a,b,c,g]<;>try rfl)
 simp only[go_sem,j]
 refine yy 1 (xz (by decide) ?_)
 simp only[go_sem]
 refine zn ?_<;>(simp only[go_sem,jP,kW,f,l,a,b,c,g]<;>try rfl)
theorem c39(e:Ev):xy Tryz.prog 113 [evV e] (bl (jP e)):=
 if h3:e.kind=3 then jab e h3 else if h4:e.kind=4 then jbb e h3 h4 else jcb e h3 h4
def J0:List (Int × Int)->List (List AV)
 | []=>[]
 | p::r=>qz p.1::qz p.2::J0 r
theorem qHa:∀(l:List (Int × Int)),(J0 l).length=2*l.length
 | []=>rfl
 | p::r=>by simp[J0,qHa r];omega
theorem qIa:∀(l:List (Int × Int)) (k:Nat) (a:k<l.length),(J0 l)[2*k]? =some [i64 l[k].1]/\(J0 l)[2*k+1]? =some [i64 l[k].2]
 | p::r,0,_=>⟨rfl,rfl⟩
 | p::r,k+1,a=>by
   have:=qIa r k (by simpa using a)
   rw[show 2*(k+1)=2*k+1+1 by omega]
   simpa [J0] using this
def Q7(l:List (Int × Int)):Bool:=l.all λp=> !decide (p.1≥p.2)
theorem Y7a{k:Nat}(h:k<4611686018427387904):wr ((k:Int)+2)=((k+2:Nat):Int):=by rw[qq (by unfold Fit;omega)];rfl
theorem c38(h:List Ob)(x:AV)(l:List (Int × Int))(s:l.length<1099511627776)(c:SlOf h x 1 (J0 l)):ACalls Tryz.prog 112 [x] h λr h'=>r=bl (Q7 l)/\h'=h:=by
 have b:=qHa l
 refine zj Tryz.f112 [.tmp 2] 20 rfl rfl rfl rfl rfl rfl (by decide) (⟨_,_,⟨rfl,rfl⟩,.refl⟩) λB=>?_
 simp only[go_sem]
 refine zO (by decide) (λn T h'=>h'=h/\∃k:Nat,T 0=x/\T 3=i64 ((2*k:Nat):Int)/\k<=l.length/\(l.take k).all (λp=> !decide (p.1≥p.2))=true/\n=l.length - k) l.length
  ⟨rfl,0,by simp only[go_sem],by(simp only[go_sem]<;>rfl),by omega,rfl,rfl⟩ ?_
 rintro n T h' ⟨rfl,k,t0,t3,t,h0,rfl⟩
 simp only[go_sem,t0,t3,c.rows,b]
 refine ways (λg=>?_) (λg=>?_)
 ·have a:k<l.length:=by
   have:((2*k:Nat):Int)<((2*l.length:Nat):Int):=by simpa using g
   omega
  obtain⟨j,q⟩:=qIa l k a
  have d:=c.at (i:=0) (by omega)
  have b0:((2*k:Nat):Int)<((2*l.length:Nat):Int):=by omega
  have b1:((2*k+1:Nat):Int)<((2*l.length:Nat):Int):=by omega
  have o:=xE (k:=2*k) (by omega)
  have m:=Y7a (k:=2*k) (by omega)
  simp only[go_sem]
  refine zQ rfl [] 0 [(0,0,[]),(1,0,[]),(4,0,[]),(5,0,[]),(6,0,[]),(2,0,[]),(3,0,[]),(7,0,[]),(8,0,[]),(9,0,[])] rfl (by decide) (by decide) ?_
  simp only[go_sem,t0,t3,c.rows,b,d,j,q,b0,b1,o,Int.toNat_natCast,zf]
  refine ways (λe=>?_) (λe=>?_)
  ·simp only[go_sem]
   have f:Q7 l=false:=by
    unfold Q7
    rw[List.all_eq_false]
    exact⟨l[k],zx a,by simp only[e];simp⟩
   refine zn ?_<;>(simp only[go_sem,f]<;>try rfl)
  ·simp only[go_sem,t3,m]
   refine⟨l.length - (k+1),by omega,k+1,t0,rfl,by omega,?_,rfl⟩
   rw[List.take_add_one,zi a,List.all_append,h0]
   simp only[Option.toList_some,List.all_cons,List.all_nil,e,Bool.and_self,Bool.not_false]
 ·have a:k=l.length:=by
   have:¬ ((2*k:Nat):Int)<((2*l.length:Nat):Int):=by simpa using g
   omega
  rw[a,zV] at h0
  simp only[go_sem]
  refine zn ?_<;>(simp only[go_sem,Q7,h0]<;>try rfl)
def vI(s:Setup)(e:Ev):Bool:= !(!jP e) && (!(!Q7 [(e.worker,s.rates.length)]) && (if e.kind=3 then Q7 [(e.from_,s.places),(e.to_,s.places),(e.element,s.elements.length),(e.class_,s.classes.length),(e.gear,s.gears.length),(e.units,10001)] else if e.kind=4 then decide (e.code<=99) else true))
theorem c14(h:List Ob)(s:Setup)(a:SA)(k:SIn h s a)(e:Ev):ACalls Tryz.prog 55 [jg s a,evV e] h λr h'=>r=bl (vI s e)/\h'=h:=by
 refine zj Tryz.f55 [.tmp 4] 57 rfl rfl rfl rfl rfl rfl (by decide) (⟨_,_,⟨rfl,rfl⟩,.refl⟩) λB=>?_
 simp only[go_sem,k.w.one,k.e.one,k.c.one,k.g.one,k.r.one,k.t.one]
 refine zh (c39 e _) ?_
 rintro _ l ⟨rfl,j⟩
 subst j
 simp only[go_sem]
 refine ways (λb=>?_) (λb=>?_)
 rotate_left
 ·have b:=vo b
  simp only[go_sem,b]
  refine zn ?_<;>(simp only[go_sem,vI,b]<;>try rfl)
 have b:=vp b
 simp only[go_sem,b,(k.app _).r.rows,zb]
 refine zh (c38 _ _ [(e.worker,s.rates.length)] (by simp) ⟨by simp only[go_sem,J0,qz],λ_=>by simp only[go_sem,J0,qz]⟩) ?_
 rintro _ l ⟨rfl,j⟩
 subst j
 simp only[go_sem,b]
 refine ways (λi=>?_) (λi=>?_)
 ·simp only[go_sem]
  refine zn ?_<;>(simp only[go_sem,vI,b,i]<;>try rfl)
 simp only[go_sem]
 by_cases d:e.kind=3
 ·simp only[go_sem,d,(k.app _).e.rows,(k.app _).c.rows,(k.app _).g.rows,zb]
  refine zh (c38 _ _ [(e.from_,s.places),(e.to_,s.places),(e.element,s.elements.length),(e.class_,s.classes.length),(e.gear,s.gears.length),(e.units,10001)] (by simp) ⟨by simp only[go_sem,J0,qz],λ_=>by simp only[go_sem,J0,qz]⟩) ?_
  rintro _ l ⟨rfl,j⟩
  subst j
  simp only[go_sem]
  refine zn ?_<;>(simp only[go_sem,vI,b,i,d]<;>try rfl)
 ·refine ways (λq=>absurd (by simpa using q) d) (λq=>?_)
  simp only[go_sem]
  by_cases f:e.kind=4
  ·refine ways (λq=>?_) (λq=>absurd f (by simpa using q))
   simp only[go_sem]
   refine zn ?_<;>(simp only[go_sem,vI,b,i,d,f]<;>try rfl)
  ·refine ways (λq=>absurd (by simpa using q) f) (λq=>?_)
   simp only[go_sem]
   refine zn ?_<;>(simp only[go_sem,vI,b,i,d,f]<;>try rfl)
