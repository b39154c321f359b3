import Derived.Test.YtigdlmpjijhpaaaGreatKA
import Derived.Test.YtigdlmpjijhpaaaGreatK26
import Derived.Test.YtigdlmpjijhpaaaGreatK28
set_option linter.all false
namespace Go.Proofs.YtigdlmpjijhpaaaGreat.Ax
open Go Go.Proofs
set_option maxRecDepth 100000
theorem c59(h:List Ob)(s:Setup)(a:SA)(k:SIn h s a)(f:SFit s)(q:qo s=true)(x y:Nat)(i:x<s.places.toNat)(n:y<s.places.toNat):
  ACalls Tryz.prog 197 [jm s a,i64 x,i64 y] h λr h'=>r=i64 (xP (yN s) x y)/\h'=h:=by
 have C:decide ((x:Int)<0)=false:=by simp
 have m:decide ((y:Int)<0)=false:=by simp
 refine zl Tryz.f197 [.tmp 6] 35 rfl rfl rfl rfl rfl rfl (by decide) (⟨_,_,⟨rfl,rfl⟩,.refl⟩) λB=>?_
 simp only[go_sem,k.w.one,k.e.one,k.c.one,k.g.one,k.r.one,k.t.one]
 refine zi (c91 _ s a (k.app _) f q) ?_
 rintro _ G ⟨L,out,st,ids,o,rfl,n1,rfl,b⟩
 obtain⟨F,l,u,E⟩:=b.ix i
 obtain⟨X,j,A,D⟩:=b.rd l i
 have d:=D y n
 have rx:=b.row
 have ex:decide ((x:Int)≥(ids.length:Int))=false:=by simp[b.len];omega
 have v:decide ((y:Int)≥(ids.length:Int))=false:=by simp[b.len];omega
 have p:(x:Int)<(ids.length:Int):=by rw[b.len];omega
 have z:(y:Int)<(X.length:Int):=by rw[A];omega
 simp only[zn,List.cons_append,List.nil_append] at rx j
 simp only[go_sem,C,m,rx,zb,ex,v,qE,u,j,d,p,z,Int.toNat_natCast,zg]
 refine zk ?_<;>(simp only[go_sem]<;>try rfl)
theorem ZB:jf (0,0):=⟨by simp[Fit],by simp[Fit]⟩
theorem jCa:∀(l:List qd) (z:qd),jf z->jf (K6 z l).1
 | [],z,h=>by unfold K6;exact h
 | x::l,z,h=>by
   unfold K6
   split
   ·exact ZB
   ·exact jCa l _ (Xu _ _ _)
theorem vda(l:List qd):jf (wU l).1:=by
 unfold wU
 split
 ·exact jCa l _ ⟨by simp[Fit],by simp[Fit]⟩
 ·exact ZB
theorem WG{f:qd->qd->qd × Int}(c:∀a b,jf (f a b).1)(a b:qd)(w:Int):jf (vp f a b w).1:=by
 unfold vp
 simp only
 split
 ·exact c a b
 ·exact ZB
structure TaskIn (s:Setup) (e:Ev):Prop where
 from_:0<=e.from_/\e.from_<s.places
 to_:0<=e.to_/\e.to_<s.places
 element:0<=e.element/\e.element<s.elements.length
 class_:0<=e.class_/\e.class_<s.classes.length
 gear:0<=e.gear/\e.gear<s.gears.length
 units:0<=e.units/\e.units<=10000
theorem JIa{s:Setup}{e:Ev}(h:ZY s e=true)(a:e.kind=3):TaskIn s e:=by
 have b:=Jb h
 simp only[jx,ka,a,if_true,zj,Bool.not_not,Bool.not_eq_true',decide_eq_false_iff_not] at b
 obtain⟨_,_,_,_,d,k,i,f,f5,f6,_⟩:=b
 unfold ZY at h
 rw[a] at h
 simp only[if_true,ZX,List.all_cons,List.all_nil,zj,Bool.not_not,Bool.not_eq_true',decide_eq_false_iff_not] at h
 obtain⟨_,_,m,l,j,n,c,g,_⟩:=h
 exact⟨by omega,by omega,by omega,by omega,by omega,by omega⟩
def jDa(D:Mat):Prop:=∀r∈D,∀z∈r,Fit z
theorem JJa{D:Mat}(h:jDa D)(a b:Nat):Fit (xP D a b):=by
 unfold xP
 rw[zG,zG]
 by_cases c:a<D.length
 ·rw[zh c]
  simp only[Option.getD_some]
  by_cases d:b<D[a].length
  ·rw[zh d];exact h _ (zw c) _ (zw d)
  ·rw[qf (l:=D[a]) (i:=b) (by omega)];simp[Fit]
 ·rw[qf (l:=D) (i:=a) (by omega)];simp[Fit]
theorem Kr{D:Mat}(h:jDa D){a b:Nat}{n:Int}(f:Fit n):jDa (vA D a b n):=by
 unfold vA
 split
 ·intro r d z c
  rcases List.mem_or_eq_of_mem_set d with d|rfl
  ·exact h r d z c
  ·rcases List.mem_or_eq_of_mem_set c with c|rfl
   ·by_cases e:a<D.length
    ·rw[zG,zh e] at c
     exact h _ (zw e) z c
    ·rw[zG,qf (l:=D) (i:=a) (by omega)] at c
     cases c
   ·exact f
 ·exact h
theorem ZC{α:Type}{f:Mat->α->Mat}:∀(l:List α) (D:Mat),(∀D,∀x∈l,jDa D->jDa (f D x))->jDa D->jDa (l.foldl f D)
 | [],_,_,h=>h
 | x::l,D,a,h=>ZC l (f D x) (λD y b=>a D y (.tail _ b)) (a D x (.head _) h)
theorem kla{s:Setup}(f:qo s=true):jDa (yN s):=by
 have e:∀w∈s.ways,Fit w.2.2:=λw a=>by
  simp only[qo,yG,zj] at f
  have d:=f.1.1.1.2
  simp only[Bool.not_eq_true',List.any_eq_false] at d
  have:=d w a
  simp[QD,Zu,Yb] at this
  unfold Fit
  omega
 unfold yN
 refine ZC _ _ (λD y _ h=>ZC _ _ (λD x _ h=>?_) h) (ZC _ _ (λD w a h=>Kr (Kr h (e w a)) (e w a)) ?_)
 ·unfold Ws
  split
  ·exact h
  ·refine ZC _ _ (λD b _ h=>?_) h
   unfold Wr
   split
   ·exact Kr h (ky _)
   ·exact h
 ·intro r g z c
  obtain⟨i,_,rfl⟩:=zx.1 g
  rcases List.mem_or_eq_of_mem_set c with c|rfl
  ·rw[List.eq_of_mem_replicate c];simp[Fit]
  ·simp[Fit]
set_option maxHeartbeats 4000000 in
theorem c22(h:List Ob)(s:Setup)(a:SA)(k:SIn h s a)(f:SFit s)(e:Ev):
  ACalls Tryz.prog 126 [jm s a,evV e] h λr h'=>r=Xt (kF s e)/\h'=h:=by
 refine zl Tryz.f126 [.cell 4 24,.tmp 5] 105 rfl rfl rfl rfl rfl rfl (by decide) (⟨_,_,⟨rfl,rfl⟩,.refl⟩) λB=>?_
 simp only[go_sem,k.w.one,k.e.one,k.c.one,k.g.one,k.r.one,k.t.one]
 refine zi (c16 _ s a (k.app _) f) ?_
 rintro _ F ⟨rfl,p⟩
 subst p
 cases Q:qo s
 ·have A:kF s e=((0,0),100):=by simp[kF,Q]
  rw[A]
  simp only[go_sem,Q,qE,Bool.not_false]
  refine zk ?_<;>(simp only[go_sem]<;>try rfl)
 have kk:∀M,SIn (h++M) s a:=λM=>k.app M
 simp only[go_sem,Q,qE,Bool.not_true,(kk _).w.one,(kk _).e.one,(kk _).c.one,(kk _).g.one,(kk _).r.one,(kk _).t.one]
 refine zi (c14 _ s a (k.app _) e) ?_
 rintro _ F ⟨rfl,p⟩
 subst p
 cases T:ZY s e
 ·have A:kF s e=((0,0),100):=by simp[kF,T]
  rw[A]
  simp only[go_sem,T,qE,Bool.not_false]
  refine zk ?_<;>(simp only[go_sem]<;>try rfl)
 cases q3:e.kind != 3
 rotate_left
 ·have A:kF s e=((0,0),100):=by
   have:(e.kind==3)=false:=by simpa using q3
   simp[kF,this]
  rw[A]
  simp only[go_sem,T,q3,qE,Bool.not_true]
  refine zk ?_<;>(simp only[go_sem]<;>try rfl)
 have R:e.kind=3:=by simpa using q3
 have K:=JIa T R
 obtain⟨x,hx⟩:=Int.eq_ofNat_of_zero_le K.from_.1
 obtain⟨y,hy⟩:=Int.eq_ofNat_of_zero_le K.to_.1
 simp only[go_sem,T,q3,qE,Bool.not_true,hx,hy,(kk _).w.one,(kk _).e.one,(kk _).c.one,(kk _).g.one,(kk _).r.one,(kk _).t.one]
 have hpl:x<s.places.toNat:=by have:=K.from_.2;omega
 have ξ:y<s.places.toNat:=by have:=K.to_.2;omega
 refine zi (c59 _ s a (kk _) f Q x y hpl ξ) ?_
 rintro _ F ⟨rfl,p⟩
 subst p
 have I:wCa s e=xP (yN s) x y:=by unfold wCa;rw[hx,hy];rfl
 obtain⟨n,hf⟩:∃n,n=xP (yN s) x y:=⟨_,rfl⟩
 rw[<-hf] at I⊢
 have hff:Fit n:=by rw[hf];exact JJa (kla Q) x y
 cases q4:n== -1
 rotate_left
 ·have g4:n= -1:=by simpa using q4
  have A:kF s e=((0,0),100):=by
   unfold kF
   rw[Q,T,I,g4]
   simp[R]
  rw[A]
  simp only[go_sem,q4]
  refine zk ?_<;>(simp only[go_sem]<;>try rfl)
 have g4:¬ n= -1:=by simpa using q4
 have A:kF s e=if(yO s e n).2=0 then((yO s e n).1,0) else((0,0),(yO s e n).2):=by
  unfold kF
  rw[Q,T,I,if_neg g4]
  simp[R]
 obtain⟨ie,m⟩:=Int.eq_ofNat_of_zero_le K.element.1
 obtain⟨ig,l⟩:=Int.eq_ofNat_of_zero_le K.gear.1
 obtain⟨ic,d⟩:=Int.eq_ofNat_of_zero_le K.class_.1
 have le:ie<s.elements.length:=by have:=K.element.2;omega
 have lg:ig<s.gears.length:=by have:=K.gear.2;omega
 have lc:ic<s.classes.length:=by have:=K.class_.2;omega
 have leI:(ie:Int)<(s.elements.length:Int):=by omega
 have o:(ig:Int)<(s.gears.length:Int):=by omega
 have q:(ic:Int)<(s.classes.length:Int):=by omega
 have eE:∀M,eOf (h++M) a.e=some 4:=λM=>(kk M).e.at (i:=ie) (by simpa using le)
 have C:∀M,eOf (h++M) a.g=some 2:=λM=>(kk M).g.at (i:=ig) (by simpa using lg)
 have N:∀M,eOf (h++M) a.c=some 2:=λM=>(kk M).c.at (i:=ic) (by simpa using lc)
 have rE:∀M,zZ (h++M) a.e=some (s.elements.map X6):=λM=>(kk M).e.rows
 have E:∀M,zZ (h++M) a.g=some (s.gears.map jG):=λM=>(kk M).g.rows
 have J:∀M,zZ (h++M) a.c=some (s.classes.map jG):=λM=>(kk M).c.rows
 obtain⟨G,S⟩:∃G,G=jla s.elements e.element:=⟨_,rfl⟩
 obtain⟨ge,ε⟩:∃ge,ge=KI s.gears e.gear:=⟨_,rfl⟩
 obtain⟨W,γ⟩:∃W,W=KI s.classes e.class_:=⟨_,rfl⟩
 have gE:(s.elements.map X6)[ie]? =some [i64 G.1.1,i64 G.1.2,i64 G.2.1,i64 G.2.2]:=by
  rw[S,m,zr,zh le]
  simp[jla,zG,le,X6]
 have D:(s.gears.map jG)[ig]? =some [i64 ge.1,i64 ge.2]:=by
  rw[ε,l,zr,zh lg]
  simp[KI,zG,lg,jG]
 have H:(s.classes.map jG)[ic]? =some [i64 W.1,i64 W.2]:=by
  rw[γ,d,zr,zh lc]
  simp[KI,zG,lc,jG]
 simp only[go_sem,q4,m,l,d,eE,rE,gE,leI,zb,Int.toNat_natCast,zg]
 refine zV rfl [.res] 1 [(0,0,[]),(1,0,[]),(2,0,[]),(3,0,[]),(5,0,[]),(8,0,[]),(10,0,[]),(6,0,[]),(9,0,[]),(11,0,[]),(12,0,[]),(13,0,[]),(4,0,[6,9,11,12,13]),(7,0,[9,11,12,13]),(14,0,[]),(15,0,[]),(16,0,[])] rfl (by decide) (by decide) ?_
 simp only[go_sem,m,l,d,C,E,D,o,zb,Int.toNat_natCast,zg]
 refine zi (c62 n _) ?_
 rintro _ F ⟨rfl,p⟩
 subst p
 simp only[go_sem,m,l,d,C,E,D,o,zb,Int.toNat_natCast,zg]
 have z:∀(h:List Ob) (j:Nat) (w:Int) (g:FuncId) (a b:qd) (v:qd->qd->qd × Int),h[j]? =some (.box 37 [i64 w])->(∀h,ACalls Tryz.prog g [rat a,rat b] h λr h'=>r=Xt (v a b)/\h'=h)->
   ACalls Tryz.prog 198 [.fn (.func g) [] [],rat a,rat b,.ptr j 0] h λr h'=>r=rat (vp v a b w).1/\h'=h.set j (.box 37 [i64 (vp v a b w).2]):=λh j w g a b v hj hc=>c60 h j w g a b (v a b) hj λL=>hc _
 have u:∀(a b:qd),jf a->jf b->∀h,ACalls Tryz.prog 201 [rat a,rat b] h λr h'=>r=Xt (Qk a b)/\h'=h:=λa b ha hb h=>c24 a b ha hb h
 have P:∀(a b:qd),jf a->jf b->∀h,ACalls Tryz.prog 199 [rat a,rat b] h λr h'=>r=Xt (jka a b)/\h'=h:=λa b ha hb h=>c61 a b ha hb h
 have fm:∀a b w,jf (vp Qk a b w).1:=λa b w=>WG (λ_ _=>Xu _ _ _) a b w
 have fa:∀a b w,jf (vp jka a b w).1:=λa b w=>WG (λ_ _=>vda _) a b w
 have σ:jf (n,1):=⟨hff,by simp[Fit]⟩
 have fge:jf ge:=by
  rw[ε,l]
  simp only[KI,Int.toNat_natCast,zG,zh lg,Option.getD_some]
  exact f.gears _ (zw lg)
 have fcl:jf W:=by
  rw[γ,d]
  simp only[KI,Int.toNat_natCast,zG,zh lc,Option.getD_some]
  exact f.classes _ (zw lc)
 have μ:jf G.1/\jf G.2:=by
  rw[S,m]
  simp only[jla,Int.toNat_natCast,zG,zh le,Option.getD_some]
  exact f.elements _ (zw le)
 have τ:jf (e.units,1):=⟨by have:=K.units;unfold Fit;omega,by simp[Fit]⟩
 have look:∀(L:List Ob) (k:Nat),(h++L)[h.length+k]? =L[k]? :=λL k=>zN rfl
 refine zi (z _ (h.length+3) 0 201 (n,1) s.pace Qk (by rw[look];rfl) (u _ _ σ f.pace)) ?_
 rintro _ F ⟨rfl,p⟩
 subst p
 obtain⟨x1,U⟩:∃x1,x1=vp Qk (n,1) s.pace 0:=⟨_,rfl⟩
 rw[<-U]
 have fx1:jf x1.1:=by rw[U];exact fm _ _ _
 simp only[go_sem,m,l,d,C,E,D,o,N,J,H,q,zb,Int.toNat_natCast,zg]
 refine zi (z _ (h.length+3) x1.2 201 x1.1 ge Qk (by rw[look];rfl) (u _ _ fx1 fge)) ?_
 rintro _ F ⟨rfl,p⟩
 subst p
 obtain⟨X,ζ⟩:∃X,X=vp Qk x1.1 ge x1.2:=⟨_,rfl⟩
 rw[<-ζ]
 simp only[go_sem,m,l,d,C,E,D,o,N,J,H,q,zb,Int.toNat_natCast,zg]
 have fx2:jf X.1:=by rw[ζ];exact fm _ _ _
 refine zV rfl [.res] 1 [(0,0,[]),(1,0,[]),(2,0,[]),(4,0,[]),(5,0,[]),(7,0,[]),(8,0,[]),(3,0,[]),(6,0,[]),(9,0,[]),(10,0,[3,6]),(11,0,[3]),(12,0,[]),(13,0,[]),(14,0,[])] rfl (by decide) (by decide) ?_
 simp only[go_sem,m,l,d,C,E,D,o,N,J,H,q,zb,Int.toNat_natCast,zg]
 refine zi (c62 e.units _) ?_
 rintro _ F ⟨rfl,p⟩
 subst p
 simp only[go_sem,m,l,d,C,E,D,o,N,J,H,q,zb,Int.toNat_natCast,zg]
 refine zi (z _ (h.length+3) X.2 201 G.2 (e.units,1) Qk (by rw[look];rfl) (u _ _ μ.2 τ)) ?_
 rintro _ F ⟨rfl,p⟩
 subst p
 obtain⟨x3,δ⟩:∃x3,x3=vp Qk G.2 (e.units,1) X.2:=⟨_,rfl⟩
 rw[<-δ]
 simp only[go_sem,m,l,d,C,E,D,o,N,J,H,q,zb,Int.toNat_natCast,zg]
 have fx3:jf x3.1:=by rw[δ];exact fm _ _ _
 refine zi (z _ (h.length+3) x3.2 199 G.1 x3.1 jka (by rw[look];rfl) (P _ _ μ.1 fx3)) ?_
 rintro _ F ⟨rfl,p⟩
 subst p
 obtain⟨Y,Z⟩:∃Y,Y=vp jka G.1 x3.1 x3.2:=⟨_,rfl⟩
 rw[<-Z]
 simp only[go_sem,m,l,d,C,E,D,o,N,J,H,q,zb,Int.toNat_natCast,zg]
 have fx4:jf Y.1:=by rw[Z];exact fa _ _ _
 refine zV rfl [] 0 [(0,0,[]),(2,0,[]),(4,0,[]),(1,0,[]),(3,0,[]),(5,0,[]),(6,0,[]),(7,0,[]),(8,0,[]),(9,0,[])] rfl (by decide) (by decide) ?_
 simp only[go_sem,m,l,d,C,E,D,o,N,J,H,q,zb,Int.toNat_natCast,zg]
 refine zi (z _ (h.length+3) Y.2 201 Y.1 W Qk (by rw[look];rfl) (u _ _ fx4 fcl)) ?_
 rintro _ F ⟨rfl,p⟩
 subst p
 obtain⟨x5,η⟩:∃x5,x5=vp Qk Y.1 W Y.2:=⟨_,rfl⟩
 rw[<-η]
 simp only[go_sem,m,l,d,C,E,D,o,N,J,H,q,zb,Int.toNat_natCast,zg]
 have fx5:jf x5.1:=by rw[η];exact fm _ _ _
 refine zi (c18 (wr (100+s.allow)) 100 (ky _) (by simp[Fit]) _) ?_
 rintro _ F ⟨rfl,p⟩
 subst p
 simp only[go_sem]
 refine zV rfl [.res] 1 [(0,0,[]),(1,0,[]),(2,0,[]),(3,0,[]),(4,0,[]),(6,0,[]),(5,0,[6]),(7,0,[]),(8,0,[]),(9,0,[])] rfl (by decide) (by decide) ?_
 simp only[go_sem,m,l,d,C,E,D,o,N,J,H,q,zb,Int.toNat_natCast,zg]
 refine zi (z _ (h.length+3) x5.2 199 X.1 x5.1 jka (by rw[look];rfl) (P _ _ fx2 fx5)) ?_
 rintro _ F ⟨rfl,p⟩
 subst p
 obtain⟨x6,V⟩:∃x6,x6=vp jka X.1 x5.1 x5.2:=⟨_,rfl⟩
 rw[<-V]
 simp only[go_sem,m,l,d,C,E,D,o,N,J,H,q,zb,Int.toNat_natCast,zg]
 have fx6:jf x6.1:=by rw[V];exact fa _ _ _
 refine zi (z _ (h.length+3) x6.2 201 x6.1 (make (wr (100+s.allow)) 100).1 Qk (by rw[look];rfl) (u _ _ fx6 (Zt _ _))) ?_
 rintro _ F ⟨rfl,p⟩
 subst p
 obtain⟨x7,κ⟩:∃x7,x7=vp Qk x6.1 (make (wr (100+s.allow)) 100).1 x6.2:=⟨_,rfl⟩
 rw[<-κ]
 simp only[go_sem,m,l,d,C,E,D,o,N,J,H,q,zb,Int.toNat_natCast,zg]
 have O:yO s e n=x7:=by
  unfold yO
  rw[<-S, <-ε, <-γ]
  simp only
  rw[<-U, <-ζ, <-δ, <-Z, <-η, <-V, <-κ]
 rw[O] at A
 refine ways (λe7=>?_) (λe7=>?_)
 ·have g7:¬ x7.2=0:=by simpa using e7
  rw[if_neg g7] at A
  rw[A]
  simp only[go_sem]
  refine zV rfl [] 0 [(0,0,[]),(1,0,[]),(2,0,[1]),(3,0,[])] rfl (by decide) (by decide) ?_
  simp only[go_sem]
  refine zk ?_<;>(simp only[go_sem]<;>try rfl)
 ·have g7:x7.2=0:=by simpa using e7
  rw[if_pos g7] at A
  rw[A]
  simp only[go_sem]
  refine zk ?_<;>(simp only[go_sem]<;>try rfl)
