/-
  Joined.
-/
import Derived.Test.YtfmldcilgbbimaaGreatK26
import Derived.Test.YtfmldcilgbbimaaGreatK28
set_option linter.unusedSimpArgs false
set_option linter.unusedVariables false
namespace Go.Proofs.YtfmldcilgbbimaaGreat.Ax
open Go Go.Proofs
set_option maxRecDepth 100000
theorem c59 (h:List Ob) (s:Setup) (a:SA) (k:SIn h s a) (f:SFit s) (C:zw s=true) (x y:Nat) (i:x<s.places.toNat) (A:y<s.places.toNat):
  ACalls Tryz.prog 179 [z6 s a,i64 x,i64 y] h λr h'=>r=i64 (jL (wQ s) x y)/\h'=h:=by
 have m:decide ((x:Int)<0)=false:=by simp
 have l:decide ((y:Int)<0)=false:=by simp
 refine zf Tryz.f179 [.tmp 6] 35 rfl rfl rfl rfl rfl rfl (by decide) (⟨_,_,⟨rfl,rfl⟩,.refl⟩) λB=>?_
 simp only[go_sem,k.w.one,k.e.one,k.c.one,k.g.one,k.r.one,k.t.one]
 refine zc (c91 _ s a (k.app _) f C) ?_
 rintro _ G ⟨L,out,st,ids,o,rfl,n1,rfl,b⟩
 obtain ⟨E,D,v,F⟩:=b.ix i
 obtain ⟨X,j,n,u⟩:=b.rd D i
 have d:=u y A
 have rx:=b.row
 have ex:decide ((x:Int)≥(ids.length:Int))=false:=by simp[b.len];omega
 have z:decide ((y:Int)≥(ids.length:Int))=false:=by simp[b.len];omega
 have p:(x:Int)<(ids.length:Int):=by rw[b.len];omega
 have q:(y:Int)<(X.length:Int):=by rw[n];omega
 simp only[List.append_assoc,List.cons_append,List.nil_append] at rx j
 simp only[go_sem,m,l,rx,List.length_map,ex,z,zJ,v,j,d,p,q,Int.toNat_natCast,Int.natCast_nonneg]
 (first | refine zd ?_ | refine ze ?_ (by rfl))<;>(simp only[go_sem]<;>try rfl)
theorem yU:qj (0,0):=⟨by simp[Fit],by simp[Fit]⟩
theorem jqa:∀(l:List zF) (z:zF),qj z->qj (W4 z l).1
 | [],z,h=>by unfold W4;exact h
 | x::l,z,h=>by
   unfold W4
   split
   ·exact yU
   ·exact jqa l _ (J6 _ _ _)
theorem vfa (l:List zF):qj (wI l).1:=by
 unfold wI
 split
 ·exact jqa l _ ⟨by simp[Fit],by simp[Fit]⟩
 ·exact yU
theorem Ww {f:zF->zF->zF × Int} (c:∀a b,qj (f a b).1) (a b:zF) (w:Int):qj (kP f a b w).1:=by
 unfold kP
 simp only
 split
 ·exact c a b
 ·exact yU
structure TaskIn (s:Setup) (e:Ev):Prop where
 from_:0<=e.from_/\e.from_<s.places
 to_:0<=e.to_/\e.to_<s.places
 element:0<=e.element/\e.element<s.elements.length
 class_:0<=e.class_/\e.class_<s.classes.length
 gear:0<=e.gear/\e.gear<s.gears.length
 units:0<=e.units/\e.units<=10000
theorem JVa {s:Setup} {e:Ev} (h:ko s e=true) (b:e.kind=3):TaskIn s e:=by
 have a:=yM h
 simp only[qF,jY,b,if_true,Bool.and_eq_true,Bool.not_not,Bool.not_eq_true',decide_eq_false_iff_not] at a
 obtain ⟨_,_,_,_,g,i,j,m,f5,f6,_⟩:=a
 unfold ko at h
 rw[b] at h
 simp only[if_true,Zl,List.all_cons,List.all_nil,Bool.and_eq_true,Bool.not_not,Bool.not_eq_true',decide_eq_false_iff_not] at h
 obtain ⟨_,_,d,f,k,l,c,n,_⟩:=h
 exact ⟨by omega,by omega,by omega,by omega,by omega,by omega⟩
def jra (D:Mat):Prop:=∀r∈D,∀z∈r,Fit z
theorem JWa {D:Mat} (h:jra D) (a b:Nat):Fit (jL D a b):=by
 unfold jL
 rw[List.getD_eq_getElem?_getD,List.getD_eq_getElem?_getD]
 by_cases c:a<D.length
 ·rw[List.getElem?_eq_getElem c]
  simp only[Option.getD_some]
  by_cases d:b<D[a].length
  ·rw[List.getElem?_eq_getElem d];exact h _ (List.getElem_mem c) _ (List.getElem_mem d)
  ·rw[List.getElem?_eq_none (l:=D[a]) (i:=b) (by omega)];simp[Fit]
 ·rw[List.getElem?_eq_none (l:=D) (i:=a) (by omega)];simp[Fit]
theorem X7 {D:Mat} (h:jra D) {a b:Nat} {n:Int} (f:Fit n):jra (kx D a b n):=by
 unfold kx
 split
 ·intro r d z c
  rcases List.mem_or_eq_of_mem_set d with d | rfl
  ·exact h r d z c
  ·rcases List.mem_or_eq_of_mem_set c with c | rfl
   ·by_cases e:a<D.length
    ·rw[List.getD_eq_getElem?_getD,List.getElem?_eq_getElem e] at c
     exact h _ (List.getElem_mem e) z c
    ·rw[List.getD_eq_getElem?_getD,List.getElem?_eq_none (l:=D) (i:=a) (by omega)] at c
     cases c
   ·exact f
 ·exact h
theorem yV {α:Type} {f:Mat->α->Mat}:∀(l:List α) (D:Mat),(∀D,∀x∈l,jra D->jra (f D x))->jra D->jra (l.foldl f D)
 | [],_,_,h=>h
 | x::l,D,a,h=>yV l (f D x) (λD y b=>a D y (.tail _ b)) (a D x (.head _) h)
theorem kaa {s:Setup} (f:zw s=true):jra (wQ s):=by
 have d:∀w∈s.ways,Fit w.2.2:=λw a=>by
  simp only[zw,vQ,Bool.and_eq_true] at f
  have e:=f.1.1.1.2
  simp only[Bool.not_eq_true',List.any_eq_false] at e
  have:=e w a
  simp[Z5,yK,W5] at this
  unfold Fit
  omega
 unfold wQ
 refine yV _ _ (λD y _ h=>yV _ _ (λD x _ h=>?_) h) (yV _ _ (λD w a h=>X7 (X7 h (d w a)) (d w a)) ?_)
 ·unfold Wk
  split
  ·exact h
  ·refine yV _ _ (λD b _ h=>?_) h
   unfold Wj
   split
   ·exact X7 h (kI _)
   ·exact h
 ·intro r g z c
  obtain ⟨i,_,rfl⟩:=List.mem_map.1 g
  rcases List.mem_or_eq_of_mem_set c with c | rfl
  ·rw[List.eq_of_mem_replicate c];simp[Fit]
  ·simp[Fit]
set_option maxHeartbeats 4000000 in
theorem c22 (h:List Ob) (s:Setup) (a:SA) (k:SIn h s a) (f:SFit s) (e:Ev):
  ACalls Tryz.prog 112 [z6 s a,evV e] h λr h'=>r=J5 (jM s e)/\h'=h:=by
 refine zf Tryz.f112 [.cell 4 24,.tmp 5] 105 rfl rfl rfl rfl rfl rfl (by decide) (⟨_,_,⟨rfl,rfl⟩,.refl⟩) λB=>?_
 simp only[go_sem,k.w.one,k.e.one,k.c.one,k.g.one,k.r.one,k.t.one]
 refine zc (c16 _ s a (k.app _) f) ?_
 rintro _ F ⟨rfl,p⟩
 subst p
 cases q1:zw s
 ·have C:jM s e=((0,0),100):=by simp[jM,q1]
  rw[C]
  simp only[go_sem,q1,zJ,Bool.not_false]
  (first | refine zd ?_ | refine ze ?_ (by rfl))<;>(simp only[go_sem]<;>try rfl)
 have kk:∀M,SIn (h++M) s a:=λM=>k.app M
 simp only[go_sem,q1,zJ,Bool.not_true,(kk _).w.one,(kk _).e.one,(kk _).c.one,(kk _).g.one,(kk _).r.one,(kk _).t.one]
 refine zc (c14 _ s a (k.app _) e) ?_
 rintro _ F ⟨rfl,p⟩
 subst p
 cases q2:ko s e
 ·have C:jM s e=((0,0),100):=by simp[jM,q2]
  rw[C]
  simp only[go_sem,q2,zJ,Bool.not_false]
  (first | refine zd ?_ | refine ze ?_ (by rfl))<;>(simp only[go_sem]<;>try rfl)
 cases q3:e.kind != 3
 rotate_left
 ·have C:jM s e=((0,0),100):=by
   have:(e.kind==3)=false:=by simpa using q3
   simp[jM,this]
  rw[C]
  simp only[go_sem,q2,q3,zJ,Bool.not_true]
  (first | refine zd ?_ | refine ze ?_ (by rfl))<;>(simp only[go_sem]<;>try rfl)
 have θ:e.kind=3:=by simpa using q3
 have K:=JVa q2 θ
 obtain ⟨x,hx⟩:=Int.eq_ofNat_of_zero_le K.from_.1
 obtain ⟨y,hy⟩:=Int.eq_ofNat_of_zero_le K.to_.1
 simp only[go_sem,q2,q3,zJ,Bool.not_true,hx,hy,(kk _).w.one,(kk _).e.one,(kk _).c.one,(kk _).g.one,(kk _).r.one,(kk _).t.one]
 have hpl:x<s.places.toNat:=by have:=K.from_.2;omega
 have ο:y<s.places.toNat:=by have:=K.to_.2;omega
 refine zc (c59 _ s a (kk _) f q1 x y hpl ο) ?_
 rintro _ F ⟨rfl,p⟩
 subst p
 have N:wxa s e=jL (wQ s) x y:=by unfold wxa;rw[hx,hy];rfl
 obtain ⟨n,hf⟩:∃n,n=jL (wQ s) x y:=⟨_,rfl⟩
 rw[<-hf] at N⊢
 have hff:Fit n:=by rw[hf];exact JWa (kaa q1) x y
 cases q4:n== -1
 rotate_left
 ·have g4:n= -1:=by simpa using q4
  have C:jM s e=((0,0),100):=by
   unfold jM
   rw[q1,q2,N,g4]
   simp[θ]
  rw[C]
  simp only[go_sem,q4]
  (first | refine zd ?_ | refine ze ?_ (by rfl))<;>(simp only[go_sem]<;>try rfl)
 have g4:¬ n= -1:=by simpa using q4
 have C:jM s e=if (yz s e n).2=0 then ((yz s e n).1,0) else ((0,0),(yz s e n).2):=by
  unfold jM
  rw[q1,q2,N,if_neg g4]
  simp[θ]
 obtain ⟨ie,m⟩:=Int.eq_ofNat_of_zero_le K.element.1
 obtain ⟨ig,l⟩:=Int.eq_ofNat_of_zero_le K.gear.1
 obtain ⟨ic,d⟩:=Int.eq_ofNat_of_zero_le K.class_.1
 have le:ie<s.elements.length:=by have:=K.element.2;omega
 have lg:ig<s.gears.length:=by have:=K.gear.2;omega
 have lc:ic<s.classes.length:=by have:=K.class_.2;omega
 have leI:(ie:Int)<(s.elements.length:Int):=by omega
 have o:(ig:Int)<(s.gears.length:Int):=by omega
 have q:(ic:Int)<(s.classes.length:Int):=by omega
 have eE:∀M,eOf (h++M) a.e=some 4:=λM=>(kk M).e.at (i:=ie) (by simpa using le)
 have E:∀M,eOf (h++M) a.g=some 2:=λM=>(kk M).g.at (i:=ig) (by simpa using lg)
 have J:∀M,eOf (h++M) a.c=some 2:=λM=>(kk M).c.at (i:=ic) (by simpa using lc)
 have rE:∀M,zq (h++M) a.e=some (s.elements.map ZN):=λM=>(kk M).e.rows
 have A:∀M,zq (h++M) a.g=some (s.gears.map qz):=λM=>(kk M).g.rows
 have I:∀M,zq (h++M) a.c=some (s.classes.map qz):=λM=>(kk M).c.rows
 obtain ⟨G,R⟩:∃G,G=jaa s.elements e.element:=⟨_,rfl⟩
 obtain ⟨ge,T⟩:∃ge,ge=KC s.gears e.gear:=⟨_,rfl⟩
 obtain ⟨cl,S⟩:∃cl,cl=KC s.classes e.class_:=⟨_,rfl⟩
 have gE:(s.elements.map ZN)[ie]? =some [i64 G.1.1,i64 G.1.2,i64 G.2.1,i64 G.2.2]:=by
  rw[R,m,List.getElem?_map,List.getElem?_eq_getElem le]
  simp[jaa,List.getD_eq_getElem?_getD,le,ZN]
 have D:(s.gears.map qz)[ig]? =some [i64 ge.1,i64 ge.2]:=by
  rw[T,l,List.getElem?_map,List.getElem?_eq_getElem lg]
  simp[KC,List.getD_eq_getElem?_getD,lg,qz]
 have H:(s.classes.map qz)[ic]? =some [i64 cl.1,i64 cl.2]:=by
  rw[S,d,List.getElem?_map,List.getElem?_eq_getElem lc]
  simp[KC,List.getD_eq_getElem?_getD,lc,qz]
 simp only[go_sem,q4,m,l,d,eE,rE,gE,leI,List.length_map,Int.toNat_natCast,Int.natCast_nonneg]
 refine zn rfl [.res] 1 [(0,0,[]),(1,0,[]),(2,0,[]),(3,0,[]),(5,0,[]),(8,0,[]),(10,0,[]),(6,0,[]),(9,0,[]),(11,0,[]),(12,0,[]),(13,0,[]),(4,0,[6,9,11,12,13]),(7,0,[9,11,12,13]),(14,0,[]),(15,0,[]),(16,0,[])] rfl (by decide) (by decide) ?_
 simp only[go_sem,m,l,d,E,A,D,o,List.length_map,Int.toNat_natCast,Int.natCast_nonneg]
 refine zc (c62 n _) ?_
 rintro _ F ⟨rfl,p⟩
 subst p
 simp only[go_sem,m,l,d,E,A,D,o,List.length_map,Int.toNat_natCast,Int.natCast_nonneg]
 have z:∀(h:List Ob) (j:Nat) (w:Int) (g:FuncId) (a b:zF) (v:zF->zF->zF × Int),h[j]? =some (.box 37 [i64 w])->(∀h,ACalls Tryz.prog g [rat a,rat b] h λr h'=>r=J5 (v a b)/\h'=h)->
   ACalls Tryz.prog 180 [.fn (.func g) [] [],rat a,rat b,.ptr j 0] h λr h'=>r=rat (kP v a b w).1/\h'=h.set j (.box 37 [i64 (kP v a b w).2]):=λh j w g a b v hj hc=>c60 h j w g a b (v a b) hj λL=>hc _
 have u:∀(a b:zF),qj a->qj b->∀h,ACalls Tryz.prog 183 [rat a,rat b] h λr h'=>r=J5 (ZO a b)/\h'=h:=λa b ha hb h=>c24 a b ha hb h
 have add0:∀(a b:zF),qj a->qj b->∀h,ACalls Tryz.prog 181 [rat a,rat b] h λr h'=>r=J5 (q9a a b)/\h'=h:=λa b ha hb h=>c61 a b ha hb h
 have fm:∀a b w,qj (kP ZO a b w).1:=λa b w=>Ww (λ_ _=>J6 _ _ _) a b w
 have fa:∀a b w,qj (kP q9a a b w).1:=λa b w=>Ww (λ_ _=>vfa _) a b w
 have σ:qj (n,1):=⟨hff,by simp[Fit]⟩
 have fge:qj ge:=by
  rw[T,l]
  simp only[KC,Int.toNat_natCast,List.getD_eq_getElem?_getD,List.getElem?_eq_getElem lg,Option.getD_some]
  exact f.gears _ (List.getElem_mem lg)
 have fcl:qj cl:=by
  rw[S,d]
  simp only[KC,Int.toNat_natCast,List.getD_eq_getElem?_getD,List.getElem?_eq_getElem lc,Option.getD_some]
  exact f.classes _ (List.getElem_mem lc)
 have μ:qj G.1/\qj G.2:=by
  rw[R,m]
  simp only[jaa,Int.toNat_natCast,List.getD_eq_getElem?_getD,List.getElem?_eq_getElem le,Option.getD_some]
  exact f.elements _ (List.getElem_mem le)
 have κ:qj (e.units,1):=⟨by have:=K.units;unfold Fit;omega,by simp[Fit]⟩
 have look:∀(L:List Ob) (k:Nat),(h++L)[h.length+k]? =L[k]? :=λL k=>zm rfl
 refine zc (z _ (h.length+3) 0 183 (n,1) s.pace ZO (by rw[look];rfl) (u _ _ σ f.pace)) ?_
 rintro _ F ⟨rfl,p⟩
 subst p
 obtain ⟨x1,Y⟩:∃x1,x1=kP ZO (n,1) s.pace 0:=⟨_,rfl⟩
 rw[<-Y]
 have fx1:qj x1.1:=by rw[Y];exact fm _ _ _
 simp only[go_sem,m,l,d,E,A,D,o,J,I,H,q,List.length_map,Int.toNat_natCast,Int.natCast_nonneg]
 refine zc (z _ (h.length+3) x1.2 183 x1.1 ge ZO (by rw[look];rfl) (u _ _ fx1 fge)) ?_
 rintro _ F ⟨rfl,p⟩
 subst p
 obtain ⟨X,β⟩:∃X,X=kP ZO x1.1 ge x1.2:=⟨_,rfl⟩
 rw[<-β]
 simp only[go_sem,m,l,d,E,A,D,o,J,I,H,q,List.length_map,Int.toNat_natCast,Int.natCast_nonneg]
 have fx2:qj X.1:=by rw[β];exact fm _ _ _
 refine zn rfl [.res] 1 [(0,0,[]),(1,0,[]),(2,0,[]),(4,0,[]),(5,0,[]),(7,0,[]),(8,0,[]),(3,0,[]),(6,0,[]),(9,0,[]),(10,0,[3,6]),(11,0,[3]),(12,0,[]),(13,0,[]),(14,0,[])] rfl (by decide) (by decide) ?_
 simp only[go_sem,m,l,d,E,A,D,o,J,I,H,q,List.length_map,Int.toNat_natCast,Int.natCast_nonneg]
 refine zc (c62 e.units _) ?_
 rintro _ F ⟨rfl,p⟩
 subst p
 simp only[go_sem,m,l,d,E,A,D,o,J,I,H,q,List.length_map,Int.toNat_natCast,Int.natCast_nonneg]
 refine zc (z _ (h.length+3) X.2 183 G.2 (e.units,1) ZO (by rw[look];rfl) (u _ _ μ.2 κ)) ?_
 rintro _ F ⟨rfl,p⟩
 subst p
 obtain ⟨V,W⟩:∃V,V=kP ZO G.2 (e.units,1) X.2:=⟨_,rfl⟩
 rw[<-W]
 simp only[go_sem,m,l,d,E,A,D,o,J,I,H,q,List.length_map,Int.toNat_natCast,Int.natCast_nonneg]
 have fx3:qj V.1:=by rw[W];exact fm _ _ _
 refine zc (z _ (h.length+3) V.2 181 G.1 V.1 q9a (by rw[look];rfl) (add0 _ _ μ.1 fx3)) ?_
 rintro _ F ⟨rfl,p⟩
 subst p
 obtain ⟨P,U⟩:∃P,P=kP q9a G.1 V.1 V.2:=⟨_,rfl⟩
 rw[<-U]
 simp only[go_sem,m,l,d,E,A,D,o,J,I,H,q,List.length_map,Int.toNat_natCast,Int.natCast_nonneg]
 have fx4:qj P.1:=by rw[U];exact fa _ _ _
 refine zn rfl [] 0 [(0,0,[]),(2,0,[]),(4,0,[]),(1,0,[]),(3,0,[]),(5,0,[]),(6,0,[]),(7,0,[]),(8,0,[]),(9,0,[])] rfl (by decide) (by decide) ?_
 simp only[go_sem,m,l,d,E,A,D,o,J,I,H,q,List.length_map,Int.toNat_natCast,Int.natCast_nonneg]
 refine zc (z _ (h.length+3) P.2 183 P.1 cl ZO (by rw[look];rfl) (u _ _ fx4 fcl)) ?_
 rintro _ F ⟨rfl,p⟩
 subst p
 obtain ⟨x5,Z⟩:∃x5,x5=kP ZO P.1 cl P.2:=⟨_,rfl⟩
 rw[<-Z]
 simp only[go_sem,m,l,d,E,A,D,o,J,I,H,q,List.length_map,Int.toNat_natCast,Int.natCast_nonneg]
 have fx5:qj x5.1:=by rw[Z];exact fm _ _ _
 refine zc (c18 (wr (100+s.allow)) 100 (kI _) (by simp[Fit]) _) ?_
 rintro _ F ⟨rfl,p⟩
 subst p
 simp only[go_sem]
 refine zn rfl [.res] 1 [(0,0,[]),(1,0,[]),(2,0,[]),(3,0,[]),(4,0,[]),(6,0,[]),(5,0,[6]),(7,0,[]),(8,0,[]),(9,0,[])] rfl (by decide) (by decide) ?_
 simp only[go_sem,m,l,d,E,A,D,o,J,I,H,q,List.length_map,Int.toNat_natCast,Int.natCast_nonneg]
 refine zc (z _ (h.length+3) x5.2 181 X.1 x5.1 q9a (by rw[look];rfl) (add0 _ _ fx2 fx5)) ?_
 rintro _ F ⟨rfl,p⟩
 subst p
 obtain ⟨Q,ε⟩:∃Q,Q=kP q9a X.1 x5.1 x5.2:=⟨_,rfl⟩
 rw[<-ε]
 simp only[go_sem,m,l,d,E,A,D,o,J,I,H,q,List.length_map,Int.toNat_natCast,Int.natCast_nonneg]
 have fx6:qj Q.1:=by rw[ε];exact fa _ _ _
 refine zc (z _ (h.length+3) Q.2 183 Q.1 (make (wr (100+s.allow)) 100).1 ZO (by rw[look];rfl) (u _ _ fx6 (yJ _ _))) ?_
 rintro _ F ⟨rfl,p⟩
 subst p
 obtain ⟨x7,ν⟩:∃x7,x7=kP ZO Q.1 (make (wr (100+s.allow)) 100).1 Q.2:=⟨_,rfl⟩
 rw[<-ν]
 simp only[go_sem,m,l,d,E,A,D,o,J,I,H,q,List.length_map,Int.toNat_natCast,Int.natCast_nonneg]
 have O:yz s e n=x7:=by
  unfold yz
  rw[<-R, <-T, <-S]
  simp only
  rw[<-Y, <-β, <-W, <-U, <-Z, <-ε, <-ν]
 rw[O] at C
 refine ways (λe7=>?_) (λe7=>?_)
 ·have g7:¬ x7.2=0:=by simpa using e7
  rw[if_neg g7] at C
  rw[C]
  simp only[go_sem]
  refine zn rfl [] 0 [(0,0,[]),(1,0,[]),(2,0,[1]),(3,0,[])] rfl (by decide) (by decide) ?_
  simp only[go_sem]
  (first | refine zd ?_ | refine ze ?_ (by rfl))<;>(simp only[go_sem]<;>try rfl)
 ·have g7:x7.2=0:=by simpa using e7
  rw[if_pos g7] at C
  rw[C]
  simp only[go_sem]
  (first | refine zd ?_ | refine ze ?_ (by rfl))<;>(simp only[go_sem]<;>try rfl)
end Go.Proofs.YtfmldcilgbbimaaGreat.Ax
