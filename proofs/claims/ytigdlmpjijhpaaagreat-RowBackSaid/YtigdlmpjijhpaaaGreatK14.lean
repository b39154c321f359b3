import Derived.Test.YtigdlmpjijhpaaaGreatKA
import Derived.Test.YtigdlmpjijhpaaaGreatK13
set_option linter.all false
namespace Go.Proofs.YtigdlmpjijhpaaaGreat.Ax
open Go Go.Proofs
set_option maxRecDepth 100000
def ka(e:Ev):Bool:=if e.kind=3 then !decide (e.from_<0) && (!decide (e.to_<0) && (!decide (e.element<0) && (!decide (e.units<0) && (!decide (e.class_<0) && (!decide (e.gear<0) && e.code==0)))))
 else if e.kind=4 then !decide (e.code<0) && (e.from_==0 && (e.to_==0 && (e.element==0 && (e.units==0 && (e.class_==0 && e.gear==0)))))
 else e.from_==0 && (e.to_==0 && (e.element==0 && (e.units==0 && (e.class_==0 && (e.gear==0 && e.code==0)))))
def jx(e:Ev):Bool:= !(!X8 e.kind) && (!(!ZS e.id 100000) && (!decide (e.worker<0) && (!(!ZS e.at_ 31449599) && ka e)))
theorem V3a(e:Ev)(f:e.kind=3):xv Tryz.prog 113 [evV e] (bl (jx e)):=λh=>by
 refine zl Tryz.f113 [.tmp 2] 54 rfl rfl rfl rfl rfl rfl (by decide) (⟨_,_,⟨rfl,rfl⟩,.refl⟩) λB=>?_
 simp only[go_sem]
 refine zi (c71 _ _ e (by simp only[go_sem])) ?_
 rintro _ q ⟨L,x,m,rfl,p⟩
 subst m
 have g:∀o,zZ (h++(o::L)) x=some (vk h.length e.kind):=λo=>by
  have:=(p (h++[o]) (by simp)).rows
  rw[zn] at this
  exact this
 have j:∀o,vk h.length e.kind≠[]->eOf (h++(o::L)) x=some 1:=λo r=>by
  have:=(p (h++[o]) (by simp)).ee r
  rw[zn] at this
  exact this
 simp only[vk,f,if_true,if_false,ne_eq,reduceCtorEq,not_false_eq_true,true_implies] at g j
 simp only[go_sem]
 refine ways (λa=>?_) (λa=>?_)
 rotate_left
 ·have a:=kw a
  simp only[go_sem,a]
  refine zk ?_<;>(simp only[go_sem,jx,a]<;>try rfl)
 have a:=kx a
 simp only[go_sem,a]
 refine zi (c72 e.id 100000 _) ?_
 rintro _ q ⟨rfl,m⟩
 subst m
 simp only[go_sem,a]
 refine ways (λb=>?_) (λb=>?_)
 rotate_left
 ·have b:=kw b
  simp only[go_sem,a,b]
  refine zk ?_<;>(simp only[go_sem,jx,a,b]<;>try rfl)
 have b:=kx b
 simp only[go_sem,a,b]
 refine ways (λc=>?_) (λc=>?_)
 rotate_left
 ·have c:=kw c
  simp only[go_sem,a,b,c]
  refine zk ?_<;>(simp only[go_sem,jx,a,b,c]<;>try rfl)
 have c:=kx c
 simp only[go_sem,a,b,c]
 refine zi (c72 e.at_ 31449599 _) ?_
 rintro _ q ⟨rfl,m⟩
 subst m
 simp only[go_sem,a,b,c]
 refine ways (λd=>?_) (λd=>?_)
 ·simp only[go_sem]
  refine zk ?_<;>(simp only[go_sem,jx,a,b,c,d]<;>try rfl)
 simp only[go_sem,g]
 refine wy 7 (j7 (by decide) ?_)
 simp only[go_sem,g,j]
 refine ways (λf0=>?_) (λf0=>?_)
 ·simp only[go_sem]
  refine zk ?_<;>(simp only[go_sem,jx,ka,f,a,b,c,d,f0]<;>try rfl)
 simp only[go_sem]
 refine j7 (by decide) ?_
 simp only[go_sem,g,j]
 refine ways (λi=>?_) (λi=>?_)
 ·simp only[go_sem]
  refine zk ?_<;>(simp only[go_sem,jx,ka,f,a,b,c,d,f0,i]<;>try rfl)
 simp only[go_sem]
 refine j7 (by decide) ?_
 simp only[go_sem,g,j]
 refine ways (λk=>?_) (λk=>?_)
 ·simp only[go_sem]
  refine zk ?_<;>(simp only[go_sem,jx,ka,f,a,b,c,d,f0,i,k]<;>try rfl)
 simp only[go_sem]
 refine j7 (by decide) ?_
 simp only[go_sem,g,j]
 refine ways (λl=>?_) (λl=>?_)
 ·simp only[go_sem]
  refine zk ?_<;>(simp only[go_sem,jx,ka,f,a,b,c,d,f0,i,k,l]<;>try rfl)
 simp only[go_sem]
 refine j7 (by decide) ?_
 simp only[go_sem,g,j]
 refine ways (λn=>?_) (λn=>?_)
 ·simp only[go_sem]
  refine zk ?_<;>(simp only[go_sem,jx,ka,f,a,b,c,d,f0,i,k,l,n]<;>try rfl)
 simp only[go_sem]
 refine j7 (by decide) ?_
 simp only[go_sem,g,j]
 refine ways (λf5=>?_) (λf5=>?_)
 ·simp only[go_sem]
  refine zk ?_<;>(simp only[go_sem,jx,ka,f,a,b,c,d,f0,i,k,l,n,f5]<;>try rfl)
 simp only[go_sem]
 refine j7 (by decide) ?_
 simp only[go_sem]
 refine zk ?_<;>(simp only[go_sem,jx,ka,f,a,b,c,d,f0,i,k,l,n,f5]<;>try rfl)
theorem V4a(e:Ev)(d:¬ e.kind=3)(i:e.kind=4):xv Tryz.prog 113 [evV e] (bl (jx e)):=λh=>by
 refine zl Tryz.f113 [.tmp 2] 54 rfl rfl rfl rfl rfl rfl (by decide) (⟨_,_,⟨rfl,rfl⟩,.refl⟩) λB=>?_
 simp only[go_sem]
 refine zi (c71 _ _ e (by simp only[go_sem])) ?_
 rintro _ m ⟨L,x,f,rfl,l⟩
 subst f
 have j:∀o,zZ (h++(o::L)) x=some (vk h.length e.kind):=λo=>by
  have:=(l (h++[o]) (by simp)).rows
  rw[zn] at this
  exact this
 have k:∀o,vk h.length e.kind≠[]->eOf (h++(o::L)) x=some 1:=λo n=>by
  have:=(l (h++[o]) (by simp)).ee n
  rw[zn] at this
  exact this
 simp only[vk,d,i,if_true,if_false,ne_eq,reduceCtorEq,not_false_eq_true,true_implies] at j k
 simp only[go_sem]
 refine ways (λa=>?_) (λa=>?_)
 rotate_left
 ·have a:=kw a
  simp only[go_sem,a]
  refine zk ?_<;>(simp only[go_sem,jx,a]<;>try rfl)
 have a:=kx a
 simp only[go_sem,a]
 refine zi (c72 e.id 100000 _) ?_
 rintro _ m ⟨rfl,f⟩
 subst f
 simp only[go_sem,a]
 refine ways (λb=>?_) (λb=>?_)
 rotate_left
 ·have b:=kw b
  simp only[go_sem,a,b]
  refine zk ?_<;>(simp only[go_sem,jx,a,b]<;>try rfl)
 have b:=kx b
 simp only[go_sem,a,b]
 refine ways (λc=>?_) (λc=>?_)
 rotate_left
 ·have c:=kw c
  simp only[go_sem,a,b,c]
  refine zk ?_<;>(simp only[go_sem,jx,a,b,c]<;>try rfl)
 have c:=kx c
 simp only[go_sem,a,b,c]
 refine zi (c72 e.at_ 31449599 _) ?_
 rintro _ m ⟨rfl,f⟩
 subst f
 simp only[go_sem,a,b,c]
 refine ways (λg=>?_) (λg=>?_)
 ·simp only[go_sem]
  refine zk ?_<;>(simp only[go_sem,jx,a,b,c,g]<;>try rfl)
 simp only[go_sem,j]
 refine wy 2 (j7 (by decide) ?_)
 simp only[go_sem,j,k]
 refine ways (λf0=>?_) (λf0=>?_)
 ·simp only[go_sem]
  refine zk ?_<;>(simp only[go_sem,jx,ka,d,i,a,b,c,g,f0]<;>try rfl)
 simp only[go_sem]
 refine j7 (by decide) ?_
 simp only[go_sem]
 refine zk ?_<;>(simp only[go_sem,jx,ka,d,i,a,b,c,g,f0]<;>try rfl)
theorem V5a(e:Ev)(d:¬ e.kind=3)(i:¬ e.kind=4):xv Tryz.prog 113 [evV e] (bl (jx e)):=λh=>by
 refine zl Tryz.f113 [.tmp 2] 54 rfl rfl rfl rfl rfl rfl (by decide) (⟨_,_,⟨rfl,rfl⟩,.refl⟩) λB=>?_
 simp only[go_sem]
 refine zi (c71 _ _ e (by simp only[go_sem])) ?_
 rintro _ l ⟨L,x,f,rfl,k⟩
 subst f
 have j:∀o,zZ (h++(o::L)) x=some (vk h.length e.kind):=λo=>by
  have:=(k (h++[o]) (by simp)).rows
  rw[zn] at this
  exact this
 have m:∀o,vk h.length e.kind≠[]->eOf (h++(o::L)) x=some 1:=λo n=>by
  have:=(k (h++[o]) (by simp)).ee n
  rw[zn] at this
  exact this
 simp only[vk,d,i,if_true,if_false,ne_eq,reduceCtorEq,not_false_eq_true,true_implies] at j m
 simp only[go_sem]
 refine ways (λa=>?_) (λa=>?_)
 rotate_left
 ·have a:=kw a
  simp only[go_sem,a]
  refine zk ?_<;>(simp only[go_sem,jx,a]<;>try rfl)
 have a:=kx a
 simp only[go_sem,a]
 refine zi (c72 e.id 100000 _) ?_
 rintro _ l ⟨rfl,f⟩
 subst f
 simp only[go_sem,a]
 refine ways (λb=>?_) (λb=>?_)
 rotate_left
 ·have b:=kw b
  simp only[go_sem,a,b]
  refine zk ?_<;>(simp only[go_sem,jx,a,b]<;>try rfl)
 have b:=kx b
 simp only[go_sem,a,b]
 refine ways (λc=>?_) (λc=>?_)
 rotate_left
 ·have c:=kw c
  simp only[go_sem,a,b,c]
  refine zk ?_<;>(simp only[go_sem,jx,a,b,c]<;>try rfl)
 have c:=kx c
 simp only[go_sem,a,b,c]
 refine zi (c72 e.at_ 31449599 _) ?_
 rintro _ l ⟨rfl,f⟩
 subst f
 simp only[go_sem,a,b,c]
 refine ways (λg=>?_) (λg=>?_)
 ·simp only[go_sem]
  refine zk ?_<;>(simp only[go_sem,jx,a,b,c,g]<;>try rfl)
 simp only[go_sem,j]
 refine wy 1 (j7 (by decide) ?_)
 simp only[go_sem]
 refine zk ?_<;>(simp only[go_sem,jx,ka,d,i,a,b,c,g]<;>try rfl)
theorem c39(e:Ev):xv Tryz.prog 113 [evV e] (bl (jx e)):=
 if h3:e.kind=3 then V3a e h3 else if h4:e.kind=4 then V4a e h3 h4 else V5a e h3 h4
def QG:List (Int × Int)->List (List AV)
 | []=>[]
 | p::r=>qI p.1::qI p.2::QG r
theorem YN:∀(l:List (Int × Int)),(QG l).length=2*l.length
 | []=>rfl
 | p::r=>by simp[QG,YN r];omega
theorem YO:∀(l:List (Int × Int)) (k:Nat) (a:k<l.length),(QG l)[2*k]? =some [i64 l[k].1]/\(QG l)[2*k+1]? =some [i64 l[k].2]
 | p::r,0,_=>⟨rfl,rfl⟩
 | p::r,k+1,a=>by
   have:=YO r k (by simpa using a)
   rw[show 2*(k+1)=2*k+1+1 by omega]
   simpa [QG] using this
def ZX(l:List (Int × Int)):Bool:=l.all λp=> !decide (p.1≥p.2)
theorem Kpa{k:Nat}(h:k<4611686018427387904):wr ((k:Int)+2)=((k+2:Nat):Int):=by rw[qb (by unfold Fit;omega)];rfl
theorem c38(h:List Ob)(x:AV)(l:List (Int × Int))(t:l.length<1099511627776)(e:SlOf h x 1 (QG l)):ACalls Tryz.prog 112 [x] h λr h'=>r=bl (ZX l)/\h'=h:=by
 have b:=YN l
 refine zl Tryz.f112 [.tmp 2] 20 rfl rfl rfl rfl rfl rfl (by decide) (⟨_,_,⟨rfl,rfl⟩,.refl⟩) λB=>?_
 simp only[go_sem]
 refine zO (by decide) (λn T h'=>h'=h/\∃k:Nat,T 0=x/\T 3=i64 ((2*k:Nat):Int)/\k<=l.length/\(l.take k).all (λp=> !decide (p.1≥p.2))=true/\n=l.length - k) l.length
  ⟨rfl,0,by simp only[go_sem],by(simp only[go_sem]<;>rfl),by omega,rfl,rfl⟩ ?_
 rintro n T h' ⟨rfl,k,t0,t3,s,h0,rfl⟩
 simp only[go_sem,t0,t3,e.rows,b]
 refine ways (λg=>?_) (λg=>?_)
 ·have a:k<l.length:=by
   have:((2*k:Nat):Int)<((2*l.length:Nat):Int):=by simpa using g
   omega
  obtain⟨o,j⟩:=YO l k a
  have f:=e.at (i:=0) (by omega)
  have b0:((2*k:Nat):Int)<((2*l.length:Nat):Int):=by omega
  have b1:((2*k+1:Nat):Int)<((2*l.length:Nat):Int):=by omega
  have q:=xS (k:=2*k) (by omega)
  have m:=Kpa (k:=2*k) (by omega)
  simp only[go_sem]
  refine zV rfl [] 0 [(0,0,[]),(1,0,[]),(4,0,[]),(5,0,[]),(6,0,[]),(2,0,[]),(3,0,[]),(7,0,[]),(8,0,[]),(9,0,[])] rfl (by decide) (by decide) ?_
  simp only[go_sem,t0,t3,e.rows,b,f,o,j,b0,b1,q,Int.toNat_natCast,zg]
  refine ways (λc=>?_) (λc=>?_)
  ·simp only[go_sem]
   have d:ZX l=false:=by
    unfold ZX
    rw[List.all_eq_false]
    exact⟨l[k],zw a,by simp only[c];simp⟩
   refine zk ?_<;>(simp only[go_sem,d]<;>try rfl)
  ·simp only[go_sem,t3,m]
   refine⟨l.length - (k+1),by omega,k+1,t0,rfl,by omega,?_,rfl⟩
   rw[List.take_add_one,zh a,List.all_append,h0]
   simp only[Option.toList_some,List.all_cons,List.all_nil,c,Bool.and_self,Bool.not_false]
 ·have a:k=l.length:=by
   have:¬ ((2*k:Nat):Int)<((2*l.length:Nat):Int):=by simpa using g
   omega
  rw[a,zY] at h0
  simp only[go_sem]
  refine zk ?_<;>(simp only[go_sem,ZX,h0]<;>try rfl)
def ZY(s:Setup)(e:Ev):Bool:= !(!jx e) && (!(!ZX [(e.worker,s.rates.length)]) && (if e.kind=3 then ZX [(e.from_,s.places),(e.to_,s.places),(e.element,s.elements.length),(e.class_,s.classes.length),(e.gear,s.gears.length),(e.units,10001)] else if e.kind=4 then decide (e.code<=99) else true))
theorem c14(h:List Ob)(s:Setup)(a:SA)(k:SIn h s a)(e:Ev):ACalls Tryz.prog 55 [jm s a,evV e] h λr h'=>r=bl (ZY s e)/\h'=h:=by
 refine zl Tryz.f55 [.tmp 4] 57 rfl rfl rfl rfl rfl rfl (by decide) (⟨_,_,⟨rfl,rfl⟩,.refl⟩) λB=>?_
 simp only[go_sem,k.w.one,k.e.one,k.c.one,k.g.one,k.r.one,k.t.one]
 refine zi (c39 e _) ?_
 rintro _ l ⟨rfl,j⟩
 subst j
 simp only[go_sem]
 refine ways (λb=>?_) (λb=>?_)
 rotate_left
 ·have b:=kw b
  simp only[go_sem,b]
  refine zk ?_<;>(simp only[go_sem,ZY,b]<;>try rfl)
 have b:=kx b
 simp only[go_sem,b,(k.app _).r.rows,zb]
 refine zi (c38 _ _ [(e.worker,s.rates.length)] (by simp) ⟨by simp only[go_sem,QG,qI],λ_=>by simp only[go_sem,QG,qI]⟩) ?_
 rintro _ l ⟨rfl,j⟩
 subst j
 simp only[go_sem,b]
 refine ways (λi=>?_) (λi=>?_)
 ·simp only[go_sem]
  refine zk ?_<;>(simp only[go_sem,ZY,b,i]<;>try rfl)
 simp only[go_sem]
 by_cases d:e.kind=3
 ·simp only[go_sem,d,(k.app _).e.rows,(k.app _).c.rows,(k.app _).g.rows,zb]
  refine zi (c38 _ _ [(e.from_,s.places),(e.to_,s.places),(e.element,s.elements.length),(e.class_,s.classes.length),(e.gear,s.gears.length),(e.units,10001)] (by simp) ⟨by simp only[go_sem,QG,qI],λ_=>by simp only[go_sem,QG,qI]⟩) ?_
  rintro _ l ⟨rfl,j⟩
  subst j
  simp only[go_sem]
  refine zk ?_<;>(simp only[go_sem,ZY,b,i,d]<;>try rfl)
 ·refine ways (λq=>absurd (by simpa using q) d) (λq=>?_)
  simp only[go_sem]
  by_cases f:e.kind=4
  ·refine ways (λq=>?_) (λq=>absurd f (by simpa using q))
   simp only[go_sem]
   refine zk ?_<;>(simp only[go_sem,ZY,b,i,d,f]<;>try rfl)
  ·refine ways (λq=>absurd (by simpa using q) f) (λq=>?_)
   simp only[go_sem]
   refine zk ?_<;>(simp only[go_sem,ZY,b,i,d,f]<;>try rfl)
