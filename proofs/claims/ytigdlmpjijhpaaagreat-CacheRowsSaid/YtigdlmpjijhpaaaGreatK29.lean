import Derived.Test.YtigdlmpjijhpaaaGreatKA
import Derived.Test.YtigdlmpjijhpaaaGreatK26
import Derived.Test.YtigdlmpjijhpaaaGreatK28
set_option linter.all false
namespace Go.Proofs.YtigdlmpjijhpaaaGreat.Ax
open Go Go.Proofs
set_option maxRecDepth 100000
theorem c59(h:List Ob)(s:Setup)(a:SA)(k:SIn h s a)(f:SFit s)(z:z6 s=true)(x y:Nat)(i:x<s.places.toNat)(q:y<s.places.toNat):
  ACalls Tryz.prog 197 [jg s a,i64 x,i64 y] h λr h'=>r=i64 (kI (ZJ s) x y)/\h'=h:=by
 have C:decide ((x:Int)<0)=false:=by simp
 have l:decide ((y:Int)<0)=false:=by simp
 refine zj Tryz.f197 [.tmp 6] 35 rfl rfl rfl rfl rfl rfl (by decide) (⟨_,_,⟨rfl,rfl⟩,.refl⟩) λB=>?_
 simp only[go_sem,k.w.one,k.e.one,k.c.one,k.g.one,k.r.one,k.t.one]
 refine zh (c91 _ s a (k.app _) f z) ?_
 rintro _ G ⟨L,out,st,ids,o,rfl,n1,rfl,b⟩
 obtain⟨F,v,u,E⟩:=b.ix i
 obtain⟨X,j,n,A⟩:=b.rd v i
 have d:=A y q
 have rx:=b.row
 have ex:decide ((x:Int)≥(ids.length:Int))=false:=by simp[b.len];omega
 have D:decide ((y:Int)≥(ids.length:Int))=false:=by simp[b.len];omega
 have p:(x:Int)<(ids.length:Int):=by rw[b.len];omega
 have m:(y:Int)<(X.length:Int):=by rw[n];omega
 simp only[zr,List.cons_append,List.nil_append] at rx j
 simp only[go_sem,C,l,rx,zb,ex,D,qv,u,j,d,p,m,Int.toNat_natCast,zf]
 refine zn ?_<;>(simp only[go_sem]<;>try rfl)
theorem QH:jq (0,0):=⟨by simp[Fit],by simp[Fit]⟩
theorem kIa:∀(l:List qw) (z:qw),jq z->jq (WU z l).1
 | [],z,h=>by unfold WU;exact h
 | x::l,z,h=>by
   unfold WU
   split
   ·exact QH
   ·exact kIa l _ (KY _ _ _)
theorem yPa(l:List qw):jq (y8 l).1:=by
 unfold y8
 split
 ·exact kIa l _ ⟨by simp[Fit],by simp[Fit]⟩
 ·exact QH
theorem zza{f:qw->qw->qw × Int}(c:∀a b,jq (f a b).1)(a b:qw)(w:Int):jq (wq f a b w).1:=by
 unfold wq
 simp only
 split
 ·exact c a b
 ·exact QH
structure TaskIn (s:Setup) (e:Ev):Prop where
 from_:0<=e.from_/\e.from_<s.places
 to_:0<=e.to_/\e.to_<s.places
 element:0<=e.element/\e.element<s.elements.length
 class_:0<=e.class_/\e.class_<s.classes.length
 gear:0<=e.gear/\e.gear<s.gears.length
 units:0<=e.units/\e.units<=10000
theorem Wea{s:Setup}{e:Ev}(h:vI s e=true)(b:e.kind=3):TaskIn s e:=by
 have a:=yA h
 simp only[jP,kW,b,if_true,zq,Bool.not_not,Bool.not_eq_true',decide_eq_false_iff_not] at a
 obtain⟨_,_,_,_,i,d,g,m,f5,f6,_⟩:=a
 unfold vI at h
 rw[b] at h
 simp only[if_true,Q7,List.all_cons,List.all_nil,zq,Bool.not_not,Bool.not_eq_true',decide_eq_false_iff_not] at h
 obtain⟨_,_,c,f,j,n,l,k,_⟩:=h
 exact⟨by omega,by omega,by omega,by omega,by omega,by omega⟩
def kJa(D:Mat):Prop:=∀r∈D,∀z∈r,Fit z
theorem Wfa{D:Mat}(h:kJa D)(a b:Nat):Fit (kI D a b):=by
 unfold kI
 rw[zZ,zZ]
 by_cases c:a<D.length
 ·rw[zi c]
  simp only[Option.getD_some]
  by_cases d:b<D[a].length
  ·rw[zi d];exact h _ (zx c) _ (zx d)
  ·rw[qB (l:=D[a]) (i:=b) (by omega)];simp[Fit]
 ·rw[qB (l:=D) (i:=a) (by omega)];simp[Fit]
theorem V2{D:Mat}(h:kJa D){a b:Nat}{n:Int}(f:Fit n):kJa (wu D a b n):=by
 unfold wu
 split
 ·intro r d z c
  rcases List.mem_or_eq_of_mem_set d with d|rfl
  ·exact h r d z c
  ·rcases List.mem_or_eq_of_mem_set c with c|rfl
   ·by_cases e:a<D.length
    ·rw[zZ,zi e] at c
     exact h _ (zx e) z c
    ·rw[zZ,qB (l:=D) (i:=a) (by omega)] at c
     cases c
   ·exact f
 ·exact h
theorem QI{α:Type}{f:Mat->α->Mat}:∀(l:List α) (D:Mat),(∀D,∀x∈l,kJa D->kJa (f D x))->kJa D->kJa (l.foldl f D)
 | [],_,_,h=>h
 | x::l,D,a,h=>QI l (f D x) (λD y b=>a D y (.tail _ b)) (a D x (.head _) h)
theorem wza{s:Setup}(f:z6 s=true):kJa (ZJ s):=by
 have d:∀w∈s.ways,Fit w.2.2:=λw a=>by
  simp only[z6,yS,zq] at f
  have e:=f.1.1.1.2
  simp only[Bool.not_eq_true',List.any_eq_false] at e
  have:=e w a
  simp[JW,Qx,qfa] at this
  unfold Fit
  omega
 unfold ZJ
 refine QI _ _ (λD y _ h=>QI _ _ (λD x _ h=>?_) h) (QI _ _ (λD w a h=>V2 (V2 h (d w a)) (d w a)) ?_)
 ·unfold zoa
  split
  ·exact h
  ·refine QI _ _ (λD b _ h=>?_) h
   unfold zna
   split
   ·exact V2 h (wE _)
   ·exact h
 ·intro r g z c
  obtain⟨i,_,rfl⟩:=zt.1 g
  rcases List.mem_or_eq_of_mem_set c with c|rfl
  ·rw[List.eq_of_mem_replicate c];simp[Fit]
  ·simp[Fit]
set_option maxHeartbeats 4000000 in
theorem c22(h:List Ob)(s:Setup)(a:SA)(k:SIn h s a)(f:SFit s)(e:Ev):
  ACalls Tryz.prog 126 [jg s a,evV e] h λr h'=>r=KX (xQ s e)/\h'=h:=by
 refine zj Tryz.f126 [.cell 4 24,.tmp 5] 105 rfl rfl rfl rfl rfl rfl (by decide) (⟨_,_,⟨rfl,rfl⟩,.refl⟩) λB=>?_
 simp only[go_sem,k.w.one,k.e.one,k.c.one,k.g.one,k.r.one,k.t.one]
 refine zh (c16 _ s a (k.app _) f) ?_
 rintro _ F ⟨rfl,p⟩
 subst p
 cases q1:z6 s
 ·have E:xQ s e=((0,0),100):=by simp[xQ,q1]
  rw[E]
  simp only[go_sem,q1,qv,Bool.not_false]
  refine zn ?_<;>(simp only[go_sem]<;>try rfl)
 have kk:∀M,SIn (h++M) s a:=λM=>k.app M
 simp only[go_sem,q1,qv,Bool.not_true,(kk _).w.one,(kk _).e.one,(kk _).c.one,(kk _).g.one,(kk _).r.one,(kk _).t.one]
 refine zh (c14 _ s a (k.app _) e) ?_
 rintro _ F ⟨rfl,p⟩
 subst p
 cases q2:vI s e
 ·have E:xQ s e=((0,0),100):=by simp[xQ,q2]
  rw[E]
  simp only[go_sem,q2,qv,Bool.not_false]
  refine zn ?_<;>(simp only[go_sem]<;>try rfl)
 cases q3:e.kind != 3
 rotate_left
 ·have E:xQ s e=((0,0),100):=by
   have:(e.kind==3)=false:=by simpa using q3
   simp[xQ,this]
  rw[E]
  simp only[go_sem,q2,q3,qv,Bool.not_true]
  refine zn ?_<;>(simp only[go_sem]<;>try rfl)
 have θ:e.kind=3:=by simpa using q3
 have H:=Wea q2 θ
 obtain⟨x,hx⟩:=Int.eq_ofNat_of_zero_le H.from_.1
 obtain⟨y,hy⟩:=Int.eq_ofNat_of_zero_le H.to_.1
 simp only[go_sem,q2,q3,qv,Bool.not_true,hx,hy,(kk _).w.one,(kk _).e.one,(kk _).c.one,(kk _).g.one,(kk _).r.one,(kk _).t.one]
 have hpl:x<s.places.toNat:=by have:=H.from_.2;omega
 have ρ:y<s.places.toNat:=by have:=H.to_.2;omega
 refine zh (c59 _ s a (kk _) f q1 x y hpl ρ) ?_
 rintro _ F ⟨rfl,p⟩
 subst p
 have N:Qna s e=kI (ZJ s) x y:=by unfold Qna;rw[hx,hy];rfl
 obtain⟨n,hf⟩:∃n,n=kI (ZJ s) x y:=⟨_,rfl⟩
 rw[<-hf] at N⊢
 have hff:Fit n:=by rw[hf];exact Wfa (wza q1) x y
 cases q4:n== -1
 rotate_left
 ·have g4:n= -1:=by simpa using q4
  have E:xQ s e=((0,0),100):=by
   unfold xQ
   rw[q1,q2,N,g4]
   simp[θ]
  rw[E]
  simp only[go_sem,q4]
  refine zn ?_<;>(simp only[go_sem]<;>try rfl)
 have g4:¬ n= -1:=by simpa using q4
 have E:xQ s e=if(ZK s e n).2=0 then((ZK s e n).1,0) else((0,0),(ZK s e n).2):=by
  unfold xQ
  rw[q1,q2,N,if_neg g4]
  simp[θ]
 obtain⟨ie,d⟩:=Int.eq_ofNat_of_zero_le H.element.1
 obtain⟨ig,l⟩:=Int.eq_ofNat_of_zero_le H.gear.1
 obtain⟨ic,m⟩:=Int.eq_ofNat_of_zero_le H.class_.1
 have le:ie<s.elements.length:=by have:=H.element.2;omega
 have lg:ig<s.gears.length:=by have:=H.gear.2;omega
 have lc:ic<s.classes.length:=by have:=H.class_.2;omega
 have leI:(ie:Int)<(s.elements.length:Int):=by omega
 have o:(ig:Int)<(s.gears.length:Int):=by omega
 have q:(ic:Int)<(s.classes.length:Int):=by omega
 have eE:∀M,eOf (h++M) a.e=some 4:=λM=>(kk M).e.at (i:=ie) (by simpa using le)
 have C:∀M,eOf (h++M) a.g=some 2:=λM=>(kk M).g.at (i:=ig) (by simpa using lg)
 have I:∀M,eOf (h++M) a.c=some 2:=λM=>(kk M).c.at (i:=ic) (by simpa using lc)
 have rE:∀M,qc (h++M) a.e=some (s.elements.map XM):=λM=>(kk M).e.rows
 have A:∀M,qc (h++M) a.g=some (s.gears.map jS):=λM=>(kk M).g.rows
 have K:∀M,qc (h++M) a.c=some (s.classes.map jS):=λM=>(kk M).c.rows
 obtain⟨G,η⟩:∃G,G=kta s.elements e.element:=⟨_,rfl⟩
 obtain⟨ge,S⟩:∃ge,ge=Wz s.gears e.gear:=⟨_,rfl⟩
 obtain⟨U,ε⟩:∃U,U=Wz s.classes e.class_:=⟨_,rfl⟩
 have gE:(s.elements.map XM)[ie]? =some [i64 G.1.1,i64 G.1.2,i64 G.2.1,i64 G.2.2]:=by
  rw[η,d,zz,zi le]
  simp[kta,zZ,le,XM]
 have D:(s.gears.map jS)[ig]? =some [i64 ge.1,i64 ge.2]:=by
  rw[S,l,zz,zi lg]
  simp[Wz,zZ,lg,jS]
 have J:(s.classes.map jS)[ic]? =some [i64 U.1,i64 U.2]:=by
  rw[ε,m,zz,zi lc]
  simp[Wz,zZ,lc,jS]
 simp only[go_sem,q4,d,l,m,eE,rE,gE,leI,zb,Int.toNat_natCast,zf]
 refine zQ rfl [.res] 1 [(0,0,[]),(1,0,[]),(2,0,[]),(3,0,[]),(5,0,[]),(8,0,[]),(10,0,[]),(6,0,[]),(9,0,[]),(11,0,[]),(12,0,[]),(13,0,[]),(4,0,[6,9,11,12,13]),(7,0,[9,11,12,13]),(14,0,[]),(15,0,[]),(16,0,[])] rfl (by decide) (by decide) ?_
 simp only[go_sem,d,l,m,C,A,D,o,zb,Int.toNat_natCast,zf]
 refine zh (c62 n _) ?_
 rintro _ F ⟨rfl,p⟩
 subst p
 simp only[go_sem,d,l,m,C,A,D,o,zb,Int.toNat_natCast,zf]
 have z:∀(h:List Ob) (j:Nat) (w:Int) (g:FuncId) (a b:qw) (v:qw->qw->qw × Int),h[j]? =some (.box 37 [i64 w])->(∀h,ACalls Tryz.prog g [rat a,rat b] h λr h'=>r=KX (v a b)/\h'=h)->
   ACalls Tryz.prog 198 [.fn (.func g) [] [],rat a,rat b,.ptr j 0] h λr h'=>r=rat (wq v a b w).1/\h'=h.set j (.box 37 [i64 (wq v a b w).2]):=λh j w g a b v hj hc=>c60 h j w g a b (v a b) hj λL=>hc _
 have u:∀(a b:qw),jq a->jq b->∀h,ACalls Tryz.prog 201 [rat a,rat b] h λr h'=>r=KX (JE a b)/\h'=h:=λa b ha hb h=>c24 a b ha hb h
 have P:∀(a b:qw),jq a->jq b->∀h,ACalls Tryz.prog 199 [rat a,rat b] h λr h'=>r=KX (ksa a b)/\h'=h:=λa b ha hb h=>c61 a b ha hb h
 have fm:∀a b w,jq (wq JE a b w).1:=λa b w=>zza (λ_ _=>KY _ _ _) a b w
 have fa:∀a b w,jq (wq ksa a b w).1:=λa b w=>zza (λ_ _=>yPa _) a b w
 have τ:jq (n,1):=⟨hff,by simp[Fit]⟩
 have fge:jq ge:=by
  rw[S,l]
  simp only[Wz,Int.toNat_natCast,zZ,zi lg,Option.getD_some]
  exact f.gears _ (zx lg)
 have fcl:jq U:=by
  rw[ε,m]
  simp only[Wz,Int.toNat_natCast,zZ,zi lc,Option.getD_some]
  exact f.classes _ (zx lc)
 have κ:jq G.1/\jq G.2:=by
  rw[η,d]
  simp only[kta,Int.toNat_natCast,zZ,zi le,Option.getD_some]
  exact f.elements _ (zx le)
 have ο:jq (e.units,1):=⟨by have:=H.units;unfold Fit;omega,by simp[Fit]⟩
 have look:∀(L:List Ob) (k:Nat),(h++L)[h.length+k]? =L[k]? :=λL k=>zG rfl
 refine zh (z _ (h.length+3) 0 201 (n,1) s.pace JE (by rw[look];rfl) (u _ _ τ f.pace)) ?_
 rintro _ F ⟨rfl,p⟩
 subst p
 obtain⟨Q,Y⟩:∃Q,Q=wq JE (n,1) s.pace 0:=⟨_,rfl⟩
 rw[<-Y]
 have fx1:jq Q.1:=by rw[Y];exact fm _ _ _
 simp only[go_sem,d,l,m,C,A,D,o,I,K,J,q,zb,Int.toNat_natCast,zf]
 refine zh (z _ (h.length+3) Q.2 201 Q.1 ge JE (by rw[look];rfl) (u _ _ fx1 fge)) ?_
 rintro _ F ⟨rfl,p⟩
 subst p
 obtain⟨x2,γ⟩:∃x2,x2=wq JE Q.1 ge Q.2:=⟨_,rfl⟩
 rw[<-γ]
 simp only[go_sem,d,l,m,C,A,D,o,I,K,J,q,zb,Int.toNat_natCast,zf]
 have fx2:jq x2.1:=by rw[γ];exact fm _ _ _
 refine zQ rfl [.res] 1 [(0,0,[]),(1,0,[]),(2,0,[]),(4,0,[]),(5,0,[]),(7,0,[]),(8,0,[]),(3,0,[]),(6,0,[]),(9,0,[]),(10,0,[3,6]),(11,0,[3]),(12,0,[]),(13,0,[]),(14,0,[])] rfl (by decide) (by decide) ?_
 simp only[go_sem,d,l,m,C,A,D,o,I,K,J,q,zb,Int.toNat_natCast,zf]
 refine zh (c62 e.units _) ?_
 rintro _ F ⟨rfl,p⟩
 subst p
 simp only[go_sem,d,l,m,C,A,D,o,I,K,J,q,zb,Int.toNat_natCast,zf]
 refine zh (z _ (h.length+3) x2.2 201 G.2 (e.units,1) JE (by rw[look];rfl) (u _ _ κ.2 ο)) ?_
 rintro _ F ⟨rfl,p⟩
 subst p
 obtain⟨Z,T⟩:∃Z,Z=wq JE G.2 (e.units,1) x2.2:=⟨_,rfl⟩
 rw[<-T]
 simp only[go_sem,d,l,m,C,A,D,o,I,K,J,q,zb,Int.toNat_natCast,zf]
 have fx3:jq Z.1:=by rw[T];exact fm _ _ _
 refine zh (z _ (h.length+3) Z.2 199 G.1 Z.1 ksa (by rw[look];rfl) (P _ _ κ.1 fx3)) ?_
 rintro _ F ⟨rfl,p⟩
 subst p
 obtain⟨X,W⟩:∃X,X=wq ksa G.1 Z.1 Z.2:=⟨_,rfl⟩
 rw[<-W]
 simp only[go_sem,d,l,m,C,A,D,o,I,K,J,q,zb,Int.toNat_natCast,zf]
 have fx4:jq X.1:=by rw[W];exact fa _ _ _
 refine zQ rfl [] 0 [(0,0,[]),(2,0,[]),(4,0,[]),(1,0,[]),(3,0,[]),(5,0,[]),(6,0,[]),(7,0,[]),(8,0,[]),(9,0,[])] rfl (by decide) (by decide) ?_
 simp only[go_sem,d,l,m,C,A,D,o,I,K,J,q,zb,Int.toNat_natCast,zf]
 refine zh (z _ (h.length+3) X.2 201 X.1 U JE (by rw[look];rfl) (u _ _ fx4 fcl)) ?_
 rintro _ F ⟨rfl,p⟩
 subst p
 obtain⟨R,V⟩:∃R,R=wq JE X.1 U X.2:=⟨_,rfl⟩
 rw[<-V]
 simp only[go_sem,d,l,m,C,A,D,o,I,K,J,q,zb,Int.toNat_natCast,zf]
 have fx5:jq R.1:=by rw[V];exact fm _ _ _
 refine zh (c18 (wr (100+s.allow)) 100 (wE _) (by simp[Fit]) _) ?_
 rintro _ F ⟨rfl,p⟩
 subst p
 simp only[go_sem]
 refine zQ rfl [.res] 1 [(0,0,[]),(1,0,[]),(2,0,[]),(3,0,[]),(4,0,[]),(6,0,[]),(5,0,[6]),(7,0,[]),(8,0,[]),(9,0,[])] rfl (by decide) (by decide) ?_
 simp only[go_sem,d,l,m,C,A,D,o,I,K,J,q,zb,Int.toNat_natCast,zf]
 refine zh (z _ (h.length+3) R.2 199 x2.1 R.1 ksa (by rw[look];rfl) (P _ _ fx2 fx5)) ?_
 rintro _ F ⟨rfl,p⟩
 subst p
 obtain⟨x6,β⟩:∃x6,x6=wq ksa x2.1 R.1 R.2:=⟨_,rfl⟩
 rw[<-β]
 simp only[go_sem,d,l,m,C,A,D,o,I,K,J,q,zb,Int.toNat_natCast,zf]
 have fx6:jq x6.1:=by rw[β];exact fa _ _ _
 refine zh (z _ (h.length+3) x6.2 201 x6.1 (make (wr (100+s.allow)) 100).1 JE (by rw[look];rfl) (u _ _ fx6 (Qw _ _))) ?_
 rintro _ F ⟨rfl,p⟩
 subst p
 obtain⟨x7,ξ⟩:∃x7,x7=wq JE x6.1 (make (wr (100+s.allow)) 100).1 x6.2:=⟨_,rfl⟩
 rw[<-ξ]
 simp only[go_sem,d,l,m,C,A,D,o,I,K,J,q,zb,Int.toNat_natCast,zf]
 have O:ZK s e n=x7:=by
  unfold ZK
  rw[<-η, <-S, <-ε]
  simp only
  rw[<-Y, <-γ, <-T, <-W, <-V, <-β, <-ξ]
 rw[O] at E
 refine ways (λe7=>?_) (λe7=>?_)
 ·have g7:¬ x7.2=0:=by simpa using e7
  rw[if_neg g7] at E
  rw[E]
  simp only[go_sem]
  refine zQ rfl [] 0 [(0,0,[]),(1,0,[]),(2,0,[1]),(3,0,[])] rfl (by decide) (by decide) ?_
  simp only[go_sem]
  refine zn ?_<;>(simp only[go_sem]<;>try rfl)
 ·have g7:x7.2=0:=by simpa using e7
  rw[if_pos g7] at E
  rw[E]
  simp only[go_sem]
  refine zn ?_<;>(simp only[go_sem]<;>try rfl)
