import Derived.Test.YtigdlmpjijhpaaaGreatBA
import Derived.Test.YtigdlmpjijhpaaaGreatB13
set_option linter.all false
namespace Go.Proofs.YtigdlmpjijhpaaaGreat.Ax
open Go Go.Proofs
set_option maxRecDepth 100000
def kR(e:Ev):Bool:=if e.kind=3 then !decide (e.from_<0) && (!decide (e.to_<0) && (!decide (e.element<0) && (!decide (e.units<0) && (!decide (e.class_<0) && (!decide (e.gear<0) && e.code==0)))))
 else if e.kind=4 then !decide (e.code<0) && (e.from_==0 && (e.to_==0 && (e.element==0 && (e.units==0 && (e.class_==0 && e.gear==0)))))
 else e.from_==0 && (e.to_==0 && (e.element==0 && (e.units==0 && (e.class_==0 && (e.gear==0 && e.code==0)))))
def jJ(e:Ev):Bool:= !(!Vw e.kind) && (!(!QH e.id 100000) && (!decide (e.worker<0) && (!(!QH e.at_ 31449599) && kR e)))
theorem qGb(e:Ev)(g:e.kind=3):xw Tryz.prog 113 [evV e] (bl (jJ e)):=λh=>by
 refine zj Tryz.f113 [.tmp 2] 54 rfl rfl rfl rfl rfl rfl (by decide) (⟨_,_,⟨rfl,rfl⟩,.refl⟩) λB=>?_
 simp only[go_sem]
 refine zg (c71 _ _ e (by simp only[go_sem])) ?_
 rintro _ p ⟨L,x,l,rfl,q⟩
 subst l
 have f:∀o,z6 (h++(o::L)) x=some (vU h.length e.kind):=λo=>by
  have:=(q (h++[o]) (by simp)).rows
  rw[zp] at this
  exact this
 have i:∀o,vU h.length e.kind≠[]->eOf (h++(o::L)) x=some 1:=λo r=>by
  have:=(q (h++[o]) (by simp)).ee r
  rw[zp] at this
  exact this
 simp only[vU,g,if_true,if_false,ne_eq,reduceCtorEq,not_false_eq_true,true_implies] at f i
 simp only[go_sem]
 refine ways (λa=>?_) (λa=>?_)
 rotate_left
 ·have a:=va a
  simp only[go_sem,a]
  refine zm ?_<;>(simp only[go_sem,jJ,a]<;>try rfl)
 have a:=vb a
 simp only[go_sem,a]
 refine zg (c72 e.id 100000 _) ?_
 rintro _ p ⟨rfl,l⟩
 subst l
 simp only[go_sem,a]
 refine ways (λb=>?_) (λb=>?_)
 rotate_left
 ·have b:=va b
  simp only[go_sem,a,b]
  refine zm ?_<;>(simp only[go_sem,jJ,a,b]<;>try rfl)
 have b:=vb b
 simp only[go_sem,a,b]
 refine ways (λc=>?_) (λc=>?_)
 rotate_left
 ·have c:=va c
  simp only[go_sem,a,b,c]
  refine zm ?_<;>(simp only[go_sem,jJ,a,b,c]<;>try rfl)
 have c:=vb c
 simp only[go_sem,a,b,c]
 refine zg (c72 e.at_ 31449599 _) ?_
 rintro _ p ⟨rfl,l⟩
 subst l
 simp only[go_sem,a,b,c]
 refine ways (λd=>?_) (λd=>?_)
 ·simp only[go_sem]
  refine zm ?_<;>(simp only[go_sem,jJ,a,b,c,d]<;>try rfl)
 simp only[go_sem,f]
 refine yi 7 (xo (by decide) ?_)
 simp only[go_sem,f,i]
 refine ways (λf0=>?_) (λf0=>?_)
 ·simp only[go_sem]
  refine zm ?_<;>(simp only[go_sem,jJ,kR,g,a,b,c,d,f0]<;>try rfl)
 simp only[go_sem]
 refine xo (by decide) ?_
 simp only[go_sem,f,i]
 refine ways (λj=>?_) (λj=>?_)
 ·simp only[go_sem]
  refine zm ?_<;>(simp only[go_sem,jJ,kR,g,a,b,c,d,f0,j]<;>try rfl)
 simp only[go_sem]
 refine xo (by decide) ?_
 simp only[go_sem,f,i]
 refine ways (λk=>?_) (λk=>?_)
 ·simp only[go_sem]
  refine zm ?_<;>(simp only[go_sem,jJ,kR,g,a,b,c,d,f0,j,k]<;>try rfl)
 simp only[go_sem]
 refine xo (by decide) ?_
 simp only[go_sem,f,i]
 refine ways (λm=>?_) (λm=>?_)
 ·simp only[go_sem]
  refine zm ?_<;>(simp only[go_sem,jJ,kR,g,a,b,c,d,f0,j,k,m]<;>try rfl)
 simp only[go_sem]
 refine xo (by decide) ?_
 simp only[go_sem,f,i]
 refine ways (λn=>?_) (λn=>?_)
 ·simp only[go_sem]
  refine zm ?_<;>(simp only[go_sem,jJ,kR,g,a,b,c,d,f0,j,k,m,n]<;>try rfl)
 simp only[go_sem]
 refine xo (by decide) ?_
 simp only[go_sem,f,i]
 refine ways (λf5=>?_) (λf5=>?_)
 ·simp only[go_sem]
  refine zm ?_<;>(simp only[go_sem,jJ,kR,g,a,b,c,d,f0,j,k,m,n,f5]<;>try rfl)
 simp only[go_sem]
 refine xo (by decide) ?_
 simp only[go_sem]
 refine zm ?_<;>(simp only[go_sem,jJ,kR,g,a,b,c,d,f0,j,k,m,n,f5]<;>try rfl)
theorem qHb(e:Ev)(d:¬ e.kind=3)(j:e.kind=4):xw Tryz.prog 113 [evV e] (bl (jJ e)):=λh=>by
 refine zj Tryz.f113 [.tmp 2] 54 rfl rfl rfl rfl rfl rfl (by decide) (⟨_,_,⟨rfl,rfl⟩,.refl⟩) λB=>?_
 simp only[go_sem]
 refine zg (c71 _ _ e (by simp only[go_sem])) ?_
 rintro _ k ⟨L,x,f,rfl,m⟩
 subst f
 have i:∀o,z6 (h++(o::L)) x=some (vU h.length e.kind):=λo=>by
  have:=(m (h++[o]) (by simp)).rows
  rw[zp] at this
  exact this
 have l:∀o,vU h.length e.kind≠[]->eOf (h++(o::L)) x=some 1:=λo n=>by
  have:=(m (h++[o]) (by simp)).ee n
  rw[zp] at this
  exact this
 simp only[vU,d,j,if_true,if_false,ne_eq,reduceCtorEq,not_false_eq_true,true_implies] at i l
 simp only[go_sem]
 refine ways (λa=>?_) (λa=>?_)
 rotate_left
 ·have a:=va a
  simp only[go_sem,a]
  refine zm ?_<;>(simp only[go_sem,jJ,a]<;>try rfl)
 have a:=vb a
 simp only[go_sem,a]
 refine zg (c72 e.id 100000 _) ?_
 rintro _ k ⟨rfl,f⟩
 subst f
 simp only[go_sem,a]
 refine ways (λb=>?_) (λb=>?_)
 rotate_left
 ·have b:=va b
  simp only[go_sem,a,b]
  refine zm ?_<;>(simp only[go_sem,jJ,a,b]<;>try rfl)
 have b:=vb b
 simp only[go_sem,a,b]
 refine ways (λc=>?_) (λc=>?_)
 rotate_left
 ·have c:=va c
  simp only[go_sem,a,b,c]
  refine zm ?_<;>(simp only[go_sem,jJ,a,b,c]<;>try rfl)
 have c:=vb c
 simp only[go_sem,a,b,c]
 refine zg (c72 e.at_ 31449599 _) ?_
 rintro _ k ⟨rfl,f⟩
 subst f
 simp only[go_sem,a,b,c]
 refine ways (λg=>?_) (λg=>?_)
 ·simp only[go_sem]
  refine zm ?_<;>(simp only[go_sem,jJ,a,b,c,g]<;>try rfl)
 simp only[go_sem,i]
 refine yi 2 (xo (by decide) ?_)
 simp only[go_sem,i,l]
 refine ways (λf0=>?_) (λf0=>?_)
 ·simp only[go_sem]
  refine zm ?_<;>(simp only[go_sem,jJ,kR,d,j,a,b,c,g,f0]<;>try rfl)
 simp only[go_sem]
 refine xo (by decide) ?_
 simp only[go_sem]
 refine zm ?_<;>(simp only[go_sem,jJ,kR,d,j,a,b,c,g,f0]<;>try rfl)
theorem qIb(e:Ev)(d:¬ e.kind=3)(l:¬ e.kind=4):xw Tryz.prog 113 [evV e] (bl (jJ e)):=λh=>by
 refine zj Tryz.f113 [.tmp 2] 54 rfl rfl rfl rfl rfl rfl (by decide) (⟨_,_,⟨rfl,rfl⟩,.refl⟩) λB=>?_
 simp only[go_sem]
 refine zg (c71 _ _ e (by simp only[go_sem])) ?_
 rintro _ j ⟨L,x,f,rfl,k⟩
 subst f
 have i:∀o,z6 (h++(o::L)) x=some (vU h.length e.kind):=λo=>by
  have:=(k (h++[o]) (by simp)).rows
  rw[zp] at this
  exact this
 have m:∀o,vU h.length e.kind≠[]->eOf (h++(o::L)) x=some 1:=λo n=>by
  have:=(k (h++[o]) (by simp)).ee n
  rw[zp] at this
  exact this
 simp only[vU,d,l,if_true,if_false,ne_eq,reduceCtorEq,not_false_eq_true,true_implies] at i m
 simp only[go_sem]
 refine ways (λa=>?_) (λa=>?_)
 rotate_left
 ·have a:=va a
  simp only[go_sem,a]
  refine zm ?_<;>(simp only[go_sem,jJ,a]<;>try rfl)
 have a:=vb a
 simp only[go_sem,a]
 refine zg (c72 e.id 100000 _) ?_
 rintro _ j ⟨rfl,f⟩
 subst f
 simp only[go_sem,a]
 refine ways (λb=>?_) (λb=>?_)
 rotate_left
 ·have b:=va b
  simp only[go_sem,a,b]
  refine zm ?_<;>(simp only[go_sem,jJ,a,b]<;>try rfl)
 have b:=vb b
 simp only[go_sem,a,b]
 refine ways (λc=>?_) (λc=>?_)
 rotate_left
 ·have c:=va c
  simp only[go_sem,a,b,c]
  refine zm ?_<;>(simp only[go_sem,jJ,a,b,c]<;>try rfl)
 have c:=vb c
 simp only[go_sem,a,b,c]
 refine zg (c72 e.at_ 31449599 _) ?_
 rintro _ j ⟨rfl,f⟩
 subst f
 simp only[go_sem,a,b,c]
 refine ways (λg=>?_) (λg=>?_)
 ·simp only[go_sem]
  refine zm ?_<;>(simp only[go_sem,jJ,a,b,c,g]<;>try rfl)
 simp only[go_sem,i]
 refine yi 1 (xo (by decide) ?_)
 simp only[go_sem]
 refine zm ?_<;>(simp only[go_sem,jJ,kR,d,l,a,b,c,g]<;>try rfl)
theorem c39(e:Ev):xw Tryz.prog 113 [evV e] (bl (jJ e)):=
 if h3:e.kind=3 then qGb e h3 else if h4:e.kind=4 then qHb e h3 h4 else qIb e h3 h4
def JF:List (Int × Int)->List (List AV)
 | []=>[]
 | p::r=>qB p.1::qB p.2::JF r
theorem qKa:∀(l:List (Int × Int)),(JF l).length=2*l.length
 | []=>rfl
 | p::r=>by simp[JF,qKa r];omega
theorem qLa:∀(l:List (Int × Int)) (k:Nat) (a:k<l.length),(JF l)[2*k]? =some [i64 l[k].1]/\(JF l)[2*k+1]? =some [i64 l[k].2]
 | p::r,0,_=>⟨rfl,rfl⟩
 | p::r,k+1,a=>by
   have:=qLa r k (by simpa using a)
   rw[show 2*(k+1)=2*k+1+1 by omega]
   simpa [JF] using this
def QN(l:List (Int × Int)):Bool:=l.all λp=> !decide (p.1≥p.2)
theorem YEa{k:Nat}(h:k<4611686018427387904):wr ((k:Int)+2)=((k+2:Nat):Int):=by rw[qp (by unfold Fit;omega)];rfl
theorem c38(h:List Ob)(x:AV)(l:List (Int × Int))(s:l.length<1099511627776)(f:SlOf h x 1 (JF l)):ACalls Tryz.prog 112 [x] h λr h'=>r=bl (QN l)/\h'=h:=by
 have b:=qKa l
 refine zj Tryz.f112 [.tmp 2] 20 rfl rfl rfl rfl rfl rfl (by decide) (⟨_,_,⟨rfl,rfl⟩,.refl⟩) λB=>?_
 simp only[go_sem]
 refine zP (by decide) (λn T h'=>h'=h/\∃k:Nat,T 0=x/\T 3=i64 ((2*k:Nat):Int)/\k<=l.length/\(l.take k).all (λp=> !decide (p.1≥p.2))=true/\n=l.length - k) l.length
  ⟨rfl,0,by simp only[go_sem],by(simp only[go_sem]<;>rfl),by omega,rfl,rfl⟩ ?_
 rintro n T h' ⟨rfl,k,t0,t3,t,h0,rfl⟩
 simp only[go_sem,t0,t3,f.rows,b]
 refine ways (λe=>?_) (λe=>?_)
 ·have a:k<l.length:=by
   have:((2*k:Nat):Int)<((2*l.length:Nat):Int):=by simpa using e
   omega
  obtain⟨m,o⟩:=qLa l k a
  have d:=f.at (i:=0) (by omega)
  have b0:((2*k:Nat):Int)<((2*l.length:Nat):Int):=by omega
  have b1:((2*k+1:Nat):Int)<((2*l.length:Nat):Int):=by omega
  have q:=xx (k:=2*k) (by omega)
  have j:=YEa (k:=2*k) (by omega)
  simp only[go_sem]
  refine zV rfl [] 0 [(0,0,[]),(1,0,[]),(4,0,[]),(5,0,[]),(6,0,[]),(2,0,[]),(3,0,[]),(7,0,[]),(8,0,[]),(9,0,[])] rfl (by decide) (by decide) ?_
  simp only[go_sem,t0,t3,f.rows,b,d,m,o,b0,b1,q,Int.toNat_natCast,zh]
  refine ways (λc=>?_) (λc=>?_)
  ·simp only[go_sem]
   have g:QN l=false:=by
    unfold QN
    rw[List.all_eq_false]
    exact⟨l[k],zD a,by simp only[c];simp⟩
   refine zm ?_<;>(simp only[go_sem,g]<;>try rfl)
  ·simp only[go_sem,t3,j]
   refine⟨l.length - (k+1),by omega,k+1,t0,rfl,by omega,?_,rfl⟩
   rw[List.take_add_one,zi a,List.all_append,h0]
   simp only[Option.toList_some,List.all_cons,List.all_nil,c,Bool.and_self,Bool.not_false]
 ·have a:k=l.length:=by
   have:¬ ((2*k:Nat):Int)<((2*l.length:Nat):Int):=by simpa using e
   omega
  rw[a,zZ] at h0
  simp only[go_sem]
  refine zm ?_<;>(simp only[go_sem,QN,h0]<;>try rfl)
def wi(s:Setup)(e:Ev):Bool:= !(!jJ e) && (!(!QN [(e.worker,s.rates.length)]) && (if e.kind=3 then QN [(e.from_,s.places),(e.to_,s.places),(e.element,s.elements.length),(e.class_,s.classes.length),(e.gear,s.gears.length),(e.units,10001)] else if e.kind=4 then decide (e.code<=99) else true))
theorem c14(h:List Ob)(s:Setup)(a:SA)(k:SIn h s a)(e:Ev):ACalls Tryz.prog 55 [je s a,evV e] h λr h'=>r=bl (wi s e)/\h'=h:=by
 refine zj Tryz.f55 [.tmp 4] 57 rfl rfl rfl rfl rfl rfl (by decide) (⟨_,_,⟨rfl,rfl⟩,.refl⟩) λB=>?_
 simp only[go_sem,k.w.one,k.e.one,k.c.one,k.g.one,k.r.one,k.t.one]
 refine zg (c39 e _) ?_
 rintro _ l ⟨rfl,i⟩
 subst i
 simp only[go_sem]
 refine ways (λb=>?_) (λb=>?_)
 rotate_left
 ·have b:=va b
  simp only[go_sem,b]
  refine zm ?_<;>(simp only[go_sem,wi,b]<;>try rfl)
 have b:=vb b
 simp only[go_sem,b,(k.app _).r.rows,zb]
 refine zg (c38 _ _ [(e.worker,s.rates.length)] (by simp) ⟨by simp only[go_sem,JF,qB],λ_=>by simp only[go_sem,JF,qB]⟩) ?_
 rintro _ l ⟨rfl,i⟩
 subst i
 simp only[go_sem,b]
 refine ways (λj=>?_) (λj=>?_)
 ·simp only[go_sem]
  refine zm ?_<;>(simp only[go_sem,wi,b,j]<;>try rfl)
 simp only[go_sem]
 by_cases d:e.kind=3
 ·simp only[go_sem,d,(k.app _).e.rows,(k.app _).c.rows,(k.app _).g.rows,zb]
  refine zg (c38 _ _ [(e.from_,s.places),(e.to_,s.places),(e.element,s.elements.length),(e.class_,s.classes.length),(e.gear,s.gears.length),(e.units,10001)] (by simp) ⟨by simp only[go_sem,JF,qB],λ_=>by simp only[go_sem,JF,qB]⟩) ?_
  rintro _ l ⟨rfl,i⟩
  subst i
  simp only[go_sem]
  refine zm ?_<;>(simp only[go_sem,wi,b,j,d]<;>try rfl)
 ·refine ways (λq=>absurd (by simpa using q) d) (λq=>?_)
  simp only[go_sem]
  by_cases f:e.kind=4
  ·refine ways (λq=>?_) (λq=>absurd f (by simpa using q))
   simp only[go_sem]
   refine zm ?_<;>(simp only[go_sem,wi,b,j,d,f]<;>try rfl)
  ·refine ways (λq=>absurd (by simpa using q) f) (λq=>?_)
   simp only[go_sem]
   refine zm ?_<;>(simp only[go_sem,wi,b,j,d,f]<;>try rfl)
