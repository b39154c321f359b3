import Derived.Test.YtigdlmpjijhpaaaGreatBA
import Derived.Test.YtigdlmpjijhpaaaGreatB26
import Derived.Test.YtigdlmpjijhpaaaGreatB28
set_option linter.all false
namespace Go.Proofs.YtigdlmpjijhpaaaGreat.Ax
open Go Go.Proofs
set_option maxRecDepth 100000
theorem c59(h:List Ob)(s:Setup)(a:SA)(k:SIn h s a)(f:SFit s)(z:qv s=true)(x y:Nat)(j:x<s.places.toNat)(C:y<s.places.toNat):
  ACalls Tryz.prog 197 [je s a,i64 x,i64 y] h λr h'=>r=i64 (kD (ZG s) x y)/\h'=h:=by
 have n:decide ((x:Int)<0)=false:=by simp
 have u:decide ((y:Int)<0)=false:=by simp
 refine zj Tryz.f197 [.tmp 6] 35 rfl rfl rfl rfl rfl rfl (by decide) (⟨_,_,⟨rfl,rfl⟩,.refl⟩) λB=>?_
 simp only[go_sem,k.w.one,k.e.one,k.c.one,k.g.one,k.r.one,k.t.one]
 refine zg (c91 _ s a (k.app _) f z) ?_
 rintro _ E ⟨L,out,st,ids,o,rfl,n1,rfl,b⟩
 obtain⟨G,p,v,F⟩:=b.ix j
 obtain⟨X,i,q,m⟩:=b.rd p j
 have d:=m y C
 have rx:=b.row
 have ex:decide ((x:Int)≥(ids.length:Int))=false:=by simp[b.len];omega
 have l:decide ((y:Int)≥(ids.length:Int))=false:=by simp[b.len];omega
 have A:(x:Int)<(ids.length:Int):=by rw[b.len];omega
 have D:(y:Int)<(X.length:Int):=by rw[q];omega
 simp only[zp,List.cons_append,List.nil_append] at rx i
 simp only[go_sem,n,u,rx,zb,ex,l,qD,v,i,d,A,D,Int.toNat_natCast,zh]
 refine zm ?_<;>(simp only[go_sem]<;>try rfl)
theorem Qq:jo (0,0):=⟨by simp[Fit],by simp[Fit]⟩
theorem kza:∀(l:List qt) (z:qt),jo z->jo (WK z l).1
 | [],z,h=>by unfold WK;exact h
 | x::l,z,h=>by
   unfold WK
   split
   ·exact Qq
   ·exact kza l _ (KE _ _ _)
theorem yJa(l:List qt):jo (yS l).1:=by
 unfold yS
 split
 ·exact kza l _ ⟨by simp[Fit],by simp[Fit]⟩
 ·exact Qq
theorem zla{f:qt->qt->qt × Int}(c:∀a b,jo (f a b).1)(a b:qt)(w:Int):jo (vY f a b w).1:=by
 unfold vY
 simp only
 split
 ·exact c a b
 ·exact Qq
structure TaskIn (s:Setup) (e:Ev):Prop where
 from_:0<=e.from_/\e.from_<s.places
 to_:0<=e.to_/\e.to_<s.places
 element:0<=e.element/\e.element<s.elements.length
 class_:0<=e.class_/\e.class_<s.classes.length
 gear:0<=e.gear/\e.gear<s.gears.length
 units:0<=e.units/\e.units<=10000
theorem VKa{s:Setup}{e:Ev}(h:wi s e=true)(b:e.kind=3):TaskIn s e:=by
 have a:=Qk h
 simp only[jJ,kR,b,if_true,zl,Bool.not_not,Bool.not_eq_true',decide_eq_false_iff_not] at a
 obtain⟨_,_,_,_,l,n,m,c,f5,f6,_⟩:=a
 unfold wi at h
 rw[b] at h
 simp only[if_true,QN,List.all_cons,List.all_nil,zl,Bool.not_not,Bool.not_eq_true',decide_eq_false_iff_not] at h
 obtain⟨_,_,j,g,i,f,k,d,_⟩:=h
 exact⟨by omega,by omega,by omega,by omega,by omega,by omega⟩
def kAa(D:Mat):Prop:=∀r∈D,∀z∈r,Fit z
theorem VLa{D:Mat}(h:kAa D)(a b:Nat):Fit (kD D a b):=by
 unfold kD
 rw[zT,zT]
 by_cases c:a<D.length
 ·rw[zi c]
  simp only[Option.getD_some]
  by_cases d:b<D[a].length
  ·rw[zi d];exact h _ (zD c) _ (zD d)
  ·rw[qA (l:=D[a]) (i:=b) (by omega)];simp[Fit]
 ·rw[qA (l:=D) (i:=a) (by omega)];simp[Fit]
theorem VN{D:Mat}(h:kAa D){a b:Nat}{n:Int}(f:Fit n):kAa (wj D a b n):=by
 unfold wj
 split
 ·intro r d z c
  rcases List.mem_or_eq_of_mem_set d with d|rfl
  ·exact h r d z c
  ·rcases List.mem_or_eq_of_mem_set c with c|rfl
   ·by_cases e:a<D.length
    ·rw[zT,zi e] at c
     exact h _ (zD e) z c
    ·rw[zT,qA (l:=D) (i:=a) (by omega)] at c
     cases c
   ·exact f
 ·exact h
theorem Qr{α:Type}{f:Mat->α->Mat}:∀(l:List α) (D:Mat),(∀D,∀x∈l,kAa D->kAa (f D x))->kAa D->kAa (l.foldl f D)
 | [],_,_,h=>h
 | x::l,D,a,h=>Qr l (f D x) (λD y b=>a D y (.tail _ b)) (a D x (.head _) h)
theorem wva{s:Setup}(f:qv s=true):kAa (ZG s):=by
 have e:∀w∈s.ways,Fit w.2.2:=λw a=>by
  simp only[qv,yH,zl] at f
  have d:=f.1.1.1.2
  simp only[Bool.not_eq_true',List.any_eq_false] at d
  have:=d w a
  simp[JC,Qh,z7a] at this
  unfold Fit
  omega
 unfold ZG
 refine Qr _ _ (λD y _ h=>Qr _ _ (λD x _ h=>?_) h) (Qr _ _ (λD w a h=>VN (VN h (e w a)) (e w a)) ?_)
 ·unfold zaa
  split
  ·exact h
  ·refine Qr _ _ (λD b _ h=>?_) h
   unfold Y9
   split
   ·exact VN h (ku _)
   ·exact h
 ·intro r g z c
  obtain⟨i,_,rfl⟩:=zw.1 g
  rcases List.mem_or_eq_of_mem_set c with c|rfl
  ·rw[List.eq_of_mem_replicate c];simp[Fit]
  ·simp[Fit]
set_option maxHeartbeats 4000000 in
theorem c22(h:List Ob)(s:Setup)(a:SA)(k:SIn h s a)(f:SFit s)(e:Ev):
  ACalls Tryz.prog 126 [je s a,evV e] h λr h'=>r=KD (vl s e)/\h'=h:=by
 refine zj Tryz.f126 [.cell 4 24,.tmp 5] 105 rfl rfl rfl rfl rfl rfl (by decide) (⟨_,_,⟨rfl,rfl⟩,.refl⟩) λB=>?_
 simp only[go_sem,k.w.one,k.e.one,k.c.one,k.g.one,k.r.one,k.t.one]
 refine zg (c16 _ s a (k.app _) f) ?_
 rintro _ F ⟨rfl,p⟩
 subst p
 cases q1:qv s
 ·have C:vl s e=((0,0),100):=by simp[vl,q1]
  rw[C]
  simp only[go_sem,q1,qD,Bool.not_false]
  refine zm ?_<;>(simp only[go_sem]<;>try rfl)
 have kk:∀M,SIn (h++M) s a:=λM=>k.app M
 simp only[go_sem,q1,qD,Bool.not_true,(kk _).w.one,(kk _).e.one,(kk _).c.one,(kk _).g.one,(kk _).r.one,(kk _).t.one]
 refine zg (c14 _ s a (k.app _) e) ?_
 rintro _ F ⟨rfl,p⟩
 subst p
 cases W:wi s e
 ·have C:vl s e=((0,0),100):=by simp[vl,W]
  rw[C]
  simp only[go_sem,W,qD,Bool.not_false]
  refine zm ?_<;>(simp only[go_sem]<;>try rfl)
 cases q3:e.kind != 3
 rotate_left
 ·have C:vl s e=((0,0),100):=by
   have:(e.kind==3)=false:=by simpa using q3
   simp[vl,this]
  rw[C]
  simp only[go_sem,W,q3,qD,Bool.not_true]
  refine zm ?_<;>(simp only[go_sem]<;>try rfl)
 have S:e.kind=3:=by simpa using q3
 have N:=VKa W S
 obtain⟨x,hx⟩:=Int.eq_ofNat_of_zero_le N.from_.1
 obtain⟨y,hy⟩:=Int.eq_ofNat_of_zero_le N.to_.1
 simp only[go_sem,W,q3,qD,Bool.not_true,hx,hy,(kk _).w.one,(kk _).e.one,(kk _).c.one,(kk _).g.one,(kk _).r.one,(kk _).t.one]
 have hpl:x<s.places.toNat:=by have:=N.from_.2;omega
 have μ:y<s.places.toNat:=by have:=N.to_.2;omega
 refine zg (c59 _ s a (kk _) f q1 x y hpl μ) ?_
 rintro _ F ⟨rfl,p⟩
 subst p
 have I:Qda s e=kD (ZG s) x y:=by unfold Qda;rw[hx,hy];rfl
 obtain⟨n,hf⟩:∃n,n=kD (ZG s) x y:=⟨_,rfl⟩
 rw[<-hf] at I⊢
 have hff:Fit n:=by rw[hf];exact VLa (wva q1) x y
 cases q4:n== -1
 rotate_left
 ·have g4:n= -1:=by simpa using q4
  have C:vl s e=((0,0),100):=by
   unfold vl
   rw[q1,W,I,g4]
   simp[S]
  rw[C]
  simp only[go_sem,q4]
  refine zm ?_<;>(simp only[go_sem]<;>try rfl)
 have g4:¬ n= -1:=by simpa using q4
 have C:vl s e=if(ZH s e n).2=0 then((ZH s e n).1,0) else((0,0),(ZH s e n).2):=by
  unfold vl
  rw[q1,W,I,if_neg g4]
  simp[S]
 obtain⟨ie,d⟩:=Int.eq_ofNat_of_zero_le N.element.1
 obtain⟨ig,l⟩:=Int.eq_ofNat_of_zero_le N.gear.1
 obtain⟨ic,m⟩:=Int.eq_ofNat_of_zero_le N.class_.1
 have le:ie<s.elements.length:=by have:=N.element.2;omega
 have lg:ig<s.gears.length:=by have:=N.gear.2;omega
 have lc:ic<s.classes.length:=by have:=N.class_.2;omega
 have leI:(ie:Int)<(s.elements.length:Int):=by omega
 have o:(ig:Int)<(s.gears.length:Int):=by omega
 have q:(ic:Int)<(s.classes.length:Int):=by omega
 have eE:∀M,eOf (h++M) a.e=some 4:=λM=>(kk M).e.at (i:=ie) (by simpa using le)
 have D:∀M,eOf (h++M) a.g=some 2:=λM=>(kk M).g.at (i:=ig) (by simpa using lg)
 have H:∀M,eOf (h++M) a.c=some 2:=λM=>(kk M).c.at (i:=ic) (by simpa using lc)
 have rE:∀M,z6 (h++M) a.e=some (s.elements.map XX):=λM=>(kk M).e.rows
 have A:∀M,z6 (h++M) a.g=some (s.gears.map jP):=λM=>(kk M).g.rows
 have K:∀M,z6 (h++M) a.c=some (s.classes.map jP):=λM=>(kk M).c.rows
 obtain⟨G,γ⟩:∃G,G=kja s.elements e.element:=⟨_,rfl⟩
 obtain⟨ge,Z⟩:∃ge,ge=Wn s.gears e.gear:=⟨_,rfl⟩
 obtain⟨cl,X⟩:∃cl,cl=Wn s.classes e.class_:=⟨_,rfl⟩
 have gE:(s.elements.map XX)[ie]? =some [i64 G.1.1,i64 G.1.2,i64 G.2.1,i64 G.2.2]:=by
  rw[γ,d,zx,zi le]
  simp[kja,zT,le,XX]
 have E:(s.gears.map jP)[ig]? =some [i64 ge.1,i64 ge.2]:=by
  rw[Z,l,zx,zi lg]
  simp[Wn,zT,lg,jP]
 have J:(s.classes.map jP)[ic]? =some [i64 cl.1,i64 cl.2]:=by
  rw[X,m,zx,zi lc]
  simp[Wn,zT,lc,jP]
 simp only[go_sem,q4,d,l,m,eE,rE,gE,leI,zb,Int.toNat_natCast,zh]
 refine zV rfl [.res] 1 [(0,0,[]),(1,0,[]),(2,0,[]),(3,0,[]),(5,0,[]),(8,0,[]),(10,0,[]),(6,0,[]),(9,0,[]),(11,0,[]),(12,0,[]),(13,0,[]),(4,0,[6,9,11,12,13]),(7,0,[9,11,12,13]),(14,0,[]),(15,0,[]),(16,0,[])] rfl (by decide) (by decide) ?_
 simp only[go_sem,d,l,m,D,A,E,o,zb,Int.toNat_natCast,zh]
 refine zg (c62 n _) ?_
 rintro _ F ⟨rfl,p⟩
 subst p
 simp only[go_sem,d,l,m,D,A,E,o,zb,Int.toNat_natCast,zh]
 have z:∀(h:List Ob) (j:Nat) (w:Int) (g:FuncId) (a b:qt) (v:qt->qt->qt × Int),h[j]? =some (.box 37 [i64 w])->(∀h,ACalls Tryz.prog g [rat a,rat b] h λr h'=>r=KD (v a b)/\h'=h)->
   ACalls Tryz.prog 198 [.fn (.func g) [] [],rat a,rat b,.ptr j 0] h λr h'=>r=rat (vY v a b w).1/\h'=h.set j (.box 37 [i64 (vY v a b w).2]):=λh j w g a b v hj hc=>c60 h j w g a b (v a b) hj λL=>hc _
 have u:∀(a b:qt),jo a->jo b->∀h,ACalls Tryz.prog 201 [rat a,rat b] h λr h'=>r=KD (Ji a b)/\h'=h:=λa b ha hb h=>c24 a b ha hb h
 have P:∀(a b:qt),jo a->jo b->∀h,ACalls Tryz.prog 199 [rat a,rat b] h λr h'=>r=KD (kia a b)/\h'=h:=λa b ha hb h=>c61 a b ha hb h
 have fm:∀a b w,jo (vY Ji a b w).1:=λa b w=>zla (λ_ _=>KE _ _ _) a b w
 have fa:∀a b w,jo (vY kia a b w).1:=λa b w=>zla (λ_ _=>yJa _) a b w
 have σ:jo (n,1):=⟨hff,by simp[Fit]⟩
 have fge:jo ge:=by
  rw[Z,l]
  simp only[Wn,Int.toNat_natCast,zT,zi lg,Option.getD_some]
  exact f.gears _ (zD lg)
 have fcl:jo cl:=by
  rw[X,m]
  simp only[Wn,Int.toNat_natCast,zT,zi lc,Option.getD_some]
  exact f.classes _ (zD lc)
 have ρ:jo G.1/\jo G.2:=by
  rw[γ,d]
  simp only[kja,Int.toNat_natCast,zT,zi le,Option.getD_some]
  exact f.elements _ (zD le)
 have τ:jo (e.units,1):=⟨by have:=N.units;unfold Fit;omega,by simp[Fit]⟩
 have look:∀(L:List Ob) (k:Nat),(h++L)[h.length+k]? =L[k]? :=λL k=>zK rfl
 refine zg (z _ (h.length+3) 0 201 (n,1) s.pace Ji (by rw[look];rfl) (u _ _ σ f.pace)) ?_
 rintro _ F ⟨rfl,p⟩
 subst p
 obtain⟨x1,V⟩:∃x1,x1=vY Ji (n,1) s.pace 0:=⟨_,rfl⟩
 rw[<-V]
 have fx1:jo x1.1:=by rw[V];exact fm _ _ _
 simp only[go_sem,d,l,m,D,A,E,o,H,K,J,q,zb,Int.toNat_natCast,zh]
 refine zg (z _ (h.length+3) x1.2 201 x1.1 ge Ji (by rw[look];rfl) (u _ _ fx1 fge)) ?_
 rintro _ F ⟨rfl,p⟩
 subst p
 obtain⟨x2,U⟩:∃x2,x2=vY Ji x1.1 ge x1.2:=⟨_,rfl⟩
 rw[<-U]
 simp only[go_sem,d,l,m,D,A,E,o,H,K,J,q,zb,Int.toNat_natCast,zh]
 have fx2:jo x2.1:=by rw[U];exact fm _ _ _
 refine zV rfl [.res] 1 [(0,0,[]),(1,0,[]),(2,0,[]),(4,0,[]),(5,0,[]),(7,0,[]),(8,0,[]),(3,0,[]),(6,0,[]),(9,0,[]),(10,0,[3,6]),(11,0,[3]),(12,0,[]),(13,0,[]),(14,0,[])] rfl (by decide) (by decide) ?_
 simp only[go_sem,d,l,m,D,A,E,o,H,K,J,q,zb,Int.toNat_natCast,zh]
 refine zg (c62 e.units _) ?_
 rintro _ F ⟨rfl,p⟩
 subst p
 simp only[go_sem,d,l,m,D,A,E,o,H,K,J,q,zb,Int.toNat_natCast,zh]
 refine zg (z _ (h.length+3) x2.2 201 G.2 (e.units,1) Ji (by rw[look];rfl) (u _ _ ρ.2 τ)) ?_
 rintro _ F ⟨rfl,p⟩
 subst p
 obtain⟨x3,Y⟩:∃x3,x3=vY Ji G.2 (e.units,1) x2.2:=⟨_,rfl⟩
 rw[<-Y]
 simp only[go_sem,d,l,m,D,A,E,o,H,K,J,q,zb,Int.toNat_natCast,zh]
 have fx3:jo x3.1:=by rw[Y];exact fm _ _ _
 refine zg (z _ (h.length+3) x3.2 199 G.1 x3.1 kia (by rw[look];rfl) (P _ _ ρ.1 fx3)) ?_
 rintro _ F ⟨rfl,p⟩
 subst p
 obtain⟨x4,α⟩:∃x4,x4=vY kia G.1 x3.1 x3.2:=⟨_,rfl⟩
 rw[<-α]
 simp only[go_sem,d,l,m,D,A,E,o,H,K,J,q,zb,Int.toNat_natCast,zh]
 have fx4:jo x4.1:=by rw[α];exact fa _ _ _
 refine zV rfl [] 0 [(0,0,[]),(2,0,[]),(4,0,[]),(1,0,[]),(3,0,[]),(5,0,[]),(6,0,[]),(7,0,[]),(8,0,[]),(9,0,[])] rfl (by decide) (by decide) ?_
 simp only[go_sem,d,l,m,D,A,E,o,H,K,J,q,zb,Int.toNat_natCast,zh]
 refine zg (z _ (h.length+3) x4.2 201 x4.1 cl Ji (by rw[look];rfl) (u _ _ fx4 fcl)) ?_
 rintro _ F ⟨rfl,p⟩
 subst p
 obtain⟨x5,R⟩:∃x5,x5=vY Ji x4.1 cl x4.2:=⟨_,rfl⟩
 rw[<-R]
 simp only[go_sem,d,l,m,D,A,E,o,H,K,J,q,zb,Int.toNat_natCast,zh]
 have fx5:jo x5.1:=by rw[R];exact fm _ _ _
 refine zg (c18 (wr (100+s.allow)) 100 (ku _) (by simp[Fit]) _) ?_
 rintro _ F ⟨rfl,p⟩
 subst p
 simp only[go_sem]
 refine zV rfl [.res] 1 [(0,0,[]),(1,0,[]),(2,0,[]),(3,0,[]),(4,0,[]),(6,0,[]),(5,0,[6]),(7,0,[]),(8,0,[]),(9,0,[])] rfl (by decide) (by decide) ?_
 simp only[go_sem,d,l,m,D,A,E,o,H,K,J,q,zb,Int.toNat_natCast,zh]
 refine zg (z _ (h.length+3) x5.2 199 x2.1 x5.1 kia (by rw[look];rfl) (P _ _ fx2 fx5)) ?_
 rintro _ F ⟨rfl,p⟩
 subst p
 obtain⟨Q,T⟩:∃Q,Q=vY kia x2.1 x5.1 x5.2:=⟨_,rfl⟩
 rw[<-T]
 simp only[go_sem,d,l,m,D,A,E,o,H,K,J,q,zb,Int.toNat_natCast,zh]
 have fx6:jo Q.1:=by rw[T];exact fa _ _ _
 refine zg (z _ (h.length+3) Q.2 201 Q.1 (make (wr (100+s.allow)) 100).1 Ji (by rw[look];rfl) (u _ _ fx6 (Qg _ _))) ?_
 rintro _ F ⟨rfl,p⟩
 subst p
 obtain⟨x7,κ⟩:∃x7,x7=vY Ji Q.1 (make (wr (100+s.allow)) 100).1 Q.2:=⟨_,rfl⟩
 rw[<-κ]
 simp only[go_sem,d,l,m,D,A,E,o,H,K,J,q,zb,Int.toNat_natCast,zh]
 have O:ZH s e n=x7:=by
  unfold ZH
  rw[<-γ, <-Z, <-X]
  simp only
  rw[<-V, <-U, <-Y, <-α, <-R, <-T, <-κ]
 rw[O] at C
 refine ways (λe7=>?_) (λe7=>?_)
 ·have g7:¬ x7.2=0:=by simpa using e7
  rw[if_neg g7] at C
  rw[C]
  simp only[go_sem]
  refine zV rfl [] 0 [(0,0,[]),(1,0,[]),(2,0,[1]),(3,0,[])] rfl (by decide) (by decide) ?_
  simp only[go_sem]
  refine zm ?_<;>(simp only[go_sem]<;>try rfl)
 ·have g7:x7.2=0:=by simpa using e7
  rw[if_pos g7] at C
  rw[C]
  simp only[go_sem]
  refine zm ?_<;>(simp only[go_sem]<;>try rfl)
