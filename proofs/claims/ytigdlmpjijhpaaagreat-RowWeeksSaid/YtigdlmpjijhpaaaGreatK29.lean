/-
  Joined.
-/
import Derived.Test.YtigdlmpjijhpaaaGreatK26
import Derived.Test.YtigdlmpjijhpaaaGreatK28
set_option linter.unusedSimpArgs false
set_option linter.unusedVariables false
namespace Go.Proofs.YtigdlmpjijhpaaaGreat.Ax
open Go Go.Proofs
set_option maxRecDepth 100000
theorem c59 (h:List Ob) (s:Setup) (a:SA) (k:SIn h s a) (f:SFit s) (n:zE s=true) (x y:Nat) (i:x<s.places.toNat) (D:y<s.places.toNat):
  ACalls Tryz.prog 197 [qj s a,i64 x,i64 y] h λr h'=>r=i64 (js (vS s) x y)/\h'=h:=by
 have z:decide ((x:Int)<0)=false:=by simp
 have q:decide ((y:Int)<0)=false:=by simp
 refine zf Tryz.f197 [.tmp 6] 35 rfl rfl rfl rfl rfl rfl (by decide) (⟨_,_,⟨rfl,rfl⟩,.refl⟩) λB=>?_
 simp only[go_sem,k.w.one,k.e.one,k.c.one,k.g.one,k.r.one,k.t.one]
 refine zd (c91 _ s a (k.app _) f n) ?_
 rintro _ E ⟨L,out,st,ids,o,rfl,n1,rfl,b⟩
 obtain ⟨G,C,v,F⟩:=b.ix i
 obtain ⟨X,j,A,m⟩:=b.rd C i
 have d:=m y D
 have rx:=b.row
 have ex:decide ((x:Int)≥(ids.length:Int))=false:=by simp[b.len];omega
 have u:decide ((y:Int)≥(ids.length:Int))=false:=by simp[b.len];omega
 have l:(x:Int)<(ids.length:Int):=by rw[b.len];omega
 have p:(y:Int)<(X.length:Int):=by rw[A];omega
 simp only[List.append_assoc,List.cons_append,List.nil_append] at rx j
 simp only[go_sem,z,q,rx,List.length_map,ex,u,zL,v,j,d,l,p,Int.toNat_natCast,Int.natCast_nonneg]
 (first | refine zc ?_ | refine ze ?_ (by rfl))<;>(simp only[go_sem]<;>try rfl)
theorem wP:qa (0,0):=⟨by simp[Fit],by simp[Fit]⟩
theorem YF:∀(l:List zy) (z:zy),qa z->qa (Kz z l).1
 | [],z,h=>by unfold Kz;exact h
 | x::l,z,h=>by
   unfold Kz
   split
   ·exact wP
   ·exact YF l _ (Qq _ _ _)
theorem qZa (l:List zy):qa (vJ l).1:=by
 unfold vJ
 split
 ·exact YF l _ ⟨by simp[Fit],by simp[Fit]⟩
 ·exact wP
theorem Ki {f:zy->zy->zy × Int} (c:∀a b,qa (f a b).1) (a b:zy) (w:Int):qa (xN f a b w).1:=by
 unfold xN
 simp only
 split
 ·exact c a b
 ·exact wP
structure TaskIn (s:Setup) (e:Ev):Prop where
 from_:0<=e.from_/\e.from_<s.places
 to_:0<=e.to_/\e.to_<s.places
 element:0<=e.element/\e.element<s.elements.length
 class_:0<=e.class_/\e.class_<s.classes.length
 gear:0<=e.gear/\e.gear<s.gears.length
 units:0<=e.units/\e.units<=10000
theorem w8a {s:Setup} {e:Ev} (h:yR s e=true) (b:e.kind=3):TaskIn s e:=by
 have a:=QW h
 simp only[qu,jB,b,if_true,Bool.and_eq_true,Bool.not_not,Bool.not_eq_true',decide_eq_false_iff_not] at a
 obtain ⟨_,_,_,_,c,i,d,j,f5,f6,_⟩:=a
 unfold yR at h
 rw[b] at h
 simp only[if_true,yc,List.all_cons,List.all_nil,Bool.and_eq_true,Bool.not_not,Bool.not_eq_true',decide_eq_false_iff_not] at h
 obtain ⟨_,_,g,l,k,n,m,f,_⟩:=h
 exact ⟨by omega,by omega,by omega,by omega,by omega,by omega⟩
def YG (D:Mat):Prop:=∀r∈D,∀z∈r,Fit z
theorem w9a {D:Mat} (h:YG D) (a b:Nat):Fit (js D a b):=by
 unfold js
 rw[List.getD_eq_getElem?_getD,List.getD_eq_getElem?_getD]
 by_cases c:a<D.length
 ·rw[List.getElem?_eq_getElem c]
  simp only[Option.getD_some]
  by_cases d:b<D[a].length
  ·rw[List.getElem?_eq_getElem d];exact h _ (List.getElem_mem c) _ (List.getElem_mem d)
  ·rw[List.getElem?_eq_none (l:=D[a]) (i:=b) (by omega)];simp[Fit]
 ·rw[List.getElem?_eq_none (l:=D) (i:=a) (by omega)];simp[Fit]
theorem Q9 {D:Mat} (h:YG D) {a b:Nat} {n:Int} (f:Fit n):YG (xw D a b n):=by
 unfold xw
 split
 ·intro r d z c
  rcases List.mem_or_eq_of_mem_set d with d | rfl
  ·exact h r d z c
  ·rcases List.mem_or_eq_of_mem_set c with c | rfl
   ·by_cases e:a<D.length
    ·rw[List.getD_eq_getElem?_getD,List.getElem?_eq_getElem e] at c
     exact h _ (List.getElem_mem e) z c
    ·rw[List.getD_eq_getElem?_getD,List.getElem?_eq_none (l:=D) (i:=a) (by omega)] at c
     cases c
   ·exact f
 ·exact h
theorem wQ {α:Type} {f:Mat->α->Mat}:∀(l:List α) (D:Mat),(∀D,∀x∈l,YG D->YG (f D x))->YG D->YG (l.foldl f D)
 | [],_,_,h=>h
 | x::l,D,a,h=>wQ l (f D x) (λD y b=>a D y (.tail _ b)) (a D x (.head _) h)
theorem qba {s:Setup} (e:zE s=true):YG (vS s):=by
 have f:∀w∈s.ways,Fit w.2.2:=λw a=>by
  simp only[zE,vL,Bool.and_eq_true] at e
  have d:=e.1.1.1.2
  simp only[Bool.not_eq_true',List.any_eq_false] at d
  have:=d w a
  simp[yN,wG,KA] at this
  unfold Fit
  omega
 unfold vS
 refine wQ _ _ (λD y _ h=>wQ _ _ (λD x _ h=>?_) h) (wQ _ _ (λD w a h=>Q9 (Q9 h (f w a)) (f w a)) ?_)
 ·unfold X6
  split
  ·exact h
  ·refine wQ _ _ (λD b _ h=>?_) h
   unfold X5
   split
   ·exact Q9 h (xC _)
   ·exact h
 ·intro r g z c
  obtain ⟨i,_,rfl⟩:=List.mem_map.1 g
  rcases List.mem_or_eq_of_mem_set c with c | rfl
  ·rw[List.eq_of_mem_replicate c];simp[Fit]
  ·simp[Fit]
set_option maxHeartbeats 4000000 in
theorem c22 (h:List Ob) (s:Setup) (a:SA) (k:SIn h s a) (f:SFit s) (e:Ev):
  ACalls Tryz.prog 126 [qj s a,evV e] h λr h'=>r=Qp (xu s e)/\h'=h:=by
 refine zf Tryz.f126 [.cell 4 24,.tmp 5] 105 rfl rfl rfl rfl rfl rfl (by decide) (⟨_,_,⟨rfl,rfl⟩,.refl⟩) λB=>?_
 simp only[go_sem,k.w.one,k.e.one,k.c.one,k.g.one,k.r.one,k.t.one]
 refine zd (c16 _ s a (k.app _) f) ?_
 rintro _ G ⟨rfl,p⟩
 subst p
 cases U:zE s
 ·have E:xu s e=((0,0),100):=by simp[xu,U]
  rw[E]
  simp only[go_sem,U,zL,Bool.not_false]
  (first | refine zc ?_ | refine ze ?_ (by rfl))<;>(simp only[go_sem]<;>try rfl)
 have kk:∀M,SIn (h++M) s a:=λM=>k.app M
 simp only[go_sem,U,zL,Bool.not_true,(kk _).w.one,(kk _).e.one,(kk _).c.one,(kk _).g.one,(kk _).r.one,(kk _).t.one]
 refine zd (c14 _ s a (k.app _) e) ?_
 rintro _ G ⟨rfl,p⟩
 subst p
 cases q2:yR s e
 ·have E:xu s e=((0,0),100):=by simp[xu,q2]
  rw[E]
  simp only[go_sem,q2,zL,Bool.not_false]
  (first | refine zc ?_ | refine ze ?_ (by rfl))<;>(simp only[go_sem]<;>try rfl)
 cases q3:e.kind != 3
 rotate_left
 ·have E:xu s e=((0,0),100):=by
   have:(e.kind==3)=false:=by simpa using q3
   simp[xu,this]
  rw[E]
  simp only[go_sem,q2,q3,zL,Bool.not_true]
  (first | refine zc ?_ | refine ze ?_ (by rfl))<;>(simp only[go_sem]<;>try rfl)
 have R:e.kind=3:=by simpa using q3
 have H:=w8a q2 R
 obtain ⟨x,hx⟩:=Int.eq_ofNat_of_zero_le H.from_.1
 obtain ⟨y,hy⟩:=Int.eq_ofNat_of_zero_le H.to_.1
 simp only[go_sem,q2,q3,zL,Bool.not_true,hx,hy,(kk _).w.one,(kk _).e.one,(kk _).c.one,(kk _).g.one,(kk _).r.one,(kk _).t.one]
 have hpl:x<s.places.toNat:=by have:=H.from_.2;omega
 have κ:y<s.places.toNat:=by have:=H.to_.2;omega
 refine zd (c59 _ s a (kk _) f U x y hpl κ) ?_
 rintro _ G ⟨rfl,p⟩
 subst p
 have J:xea s e=js (vS s) x y:=by unfold xea;rw[hx,hy];rfl
 obtain ⟨n,hf⟩:∃n,n=js (vS s) x y:=⟨_,rfl⟩
 rw[<-hf] at J⊢
 have hff:Fit n:=by rw[hf];exact w9a (qba U) x y
 cases q4:n== -1
 rotate_left
 ·have g4:n= -1:=by simpa using q4
  have E:xu s e=((0,0),100):=by
   unfold xu
   rw[U,q2,J,g4]
   simp[R]
  rw[E]
  simp only[go_sem,q4]
  (first | refine zc ?_ | refine ze ?_ (by rfl))<;>(simp only[go_sem]<;>try rfl)
 have g4:¬ n= -1:=by simpa using q4
 have E:xu s e=if (wy s e n).2=0 then ((wy s e n).1,0) else ((0,0),(wy s e n).2):=by
  unfold xu
  rw[U,q2,J,if_neg g4]
  simp[R]
 obtain ⟨ie,d⟩:=Int.eq_ofNat_of_zero_le H.element.1
 obtain ⟨ig,l⟩:=Int.eq_ofNat_of_zero_le H.gear.1
 obtain ⟨ic,m⟩:=Int.eq_ofNat_of_zero_le H.class_.1
 have le:ie<s.elements.length:=by have:=H.element.2;omega
 have lg:ig<s.gears.length:=by have:=H.gear.2;omega
 have lc:ic<s.classes.length:=by have:=H.class_.2;omega
 have leI:(ie:Int)<(s.elements.length:Int):=by omega
 have o:(ig:Int)<(s.gears.length:Int):=by omega
 have q:(ic:Int)<(s.classes.length:Int):=by omega
 have eE:∀M,eOf (h++M) a.e=some 4:=λM=>(kk M).e.at (i:=ie) (by simpa using le)
 have C:∀M,eOf (h++M) a.g=some 2:=λM=>(kk M).g.at (i:=ig) (by simpa using lg)
 have N:∀M,eOf (h++M) a.c=some 2:=λM=>(kk M).c.at (i:=ic) (by simpa using lc)
 have rE:∀M,zo (h++M) a.e=some (s.elements.map QN):=λM=>(kk M).e.rows
 have D:∀M,zo (h++M) a.g=some (s.gears.map qz):=λM=>(kk M).g.rows
 have K:∀M,zo (h++M) a.c=some (s.classes.map qz):=λM=>(kk M).c.rows
 obtain ⟨F,Q⟩:∃F,F=Yo s.elements e.element:=⟨_,rfl⟩
 obtain ⟨ge,V⟩:∃ge,ge=Jx s.gears e.gear:=⟨_,rfl⟩
 obtain ⟨cl,X⟩:∃cl,cl=Jx s.classes e.class_:=⟨_,rfl⟩
 have gE:(s.elements.map QN)[ie]? =some [i64 F.1.1,i64 F.1.2,i64 F.2.1,i64 F.2.2]:=by
  rw[Q,d,List.getElem?_map,List.getElem?_eq_getElem le]
  simp[Yo,List.getD_eq_getElem?_getD,le,QN]
 have A:(s.gears.map qz)[ig]? =some [i64 ge.1,i64 ge.2]:=by
  rw[V,l,List.getElem?_map,List.getElem?_eq_getElem lg]
  simp[Jx,List.getD_eq_getElem?_getD,lg,qz]
 have I:(s.classes.map qz)[ic]? =some [i64 cl.1,i64 cl.2]:=by
  rw[X,m,List.getElem?_map,List.getElem?_eq_getElem lc]
  simp[Jx,List.getD_eq_getElem?_getD,lc,qz]
 simp only[go_sem,q4,d,l,m,eE,rE,gE,leI,List.length_map,Int.toNat_natCast,Int.natCast_nonneg]
 refine zp rfl [.res] 1 [(0,0,[]),(1,0,[]),(2,0,[]),(3,0,[]),(5,0,[]),(8,0,[]),(10,0,[]),(6,0,[]),(9,0,[]),(11,0,[]),(12,0,[]),(13,0,[]),(4,0,[6,9,11,12,13]),(7,0,[9,11,12,13]),(14,0,[]),(15,0,[]),(16,0,[])] rfl (by decide) (by decide) ?_
 simp only[go_sem,d,l,m,C,D,A,o,List.length_map,Int.toNat_natCast,Int.natCast_nonneg]
 refine zd (c62 n _) ?_
 rintro _ G ⟨rfl,p⟩
 subst p
 simp only[go_sem,d,l,m,C,D,A,o,List.length_map,Int.toNat_natCast,Int.natCast_nonneg]
 have z:∀(h:List Ob) (j:Nat) (w:Int) (g:FuncId) (a b:zy) (v:zy->zy->zy × Int),h[j]? =some (.box 37 [i64 w])->(∀h,ACalls Tryz.prog g [rat a,rat b] h λr h'=>r=Qp (v a b)/\h'=h)->
   ACalls Tryz.prog 198 [.fn (.func g) [] [],rat a,rat b,.ptr j 0] h λr h'=>r=rat (xN v a b w).1/\h'=h.set j (.box 37 [i64 (xN v a b w).2]):=λh j w g a b v hj hc=>c60 h j w g a b (v a b) hj λL=>hc _
 have u:∀(a b:zy),qa a->qa b->∀h,ACalls Tryz.prog 201 [rat a,rat b] h λr h'=>r=Qp (yC a b)/\h'=h:=λa b ha hb h=>c24 a b ha hb h
 have P:∀(a b:zy),qa a->qa b->∀h,ACalls Tryz.prog 199 [rat a,rat b] h λr h'=>r=Qp (Yn a b)/\h'=h:=λa b ha hb h=>c61 a b ha hb h
 have fm:∀a b w,qa (xN yC a b w).1:=λa b w=>Ki (λ_ _=>Qq _ _ _) a b w
 have fa:∀a b w,qa (xN Yn a b w).1:=λa b w=>Ki (λ_ _=>qZa _) a b w
 have σ:qa (n,1):=⟨hff,by simp[Fit]⟩
 have fge:qa ge:=by
  rw[V,l]
  simp only[Jx,Int.toNat_natCast,List.getD_eq_getElem?_getD,List.getElem?_eq_getElem lg,Option.getD_some]
  exact f.gears _ (List.getElem_mem lg)
 have fcl:qa cl:=by
  rw[X,m]
  simp only[Jx,Int.toNat_natCast,List.getD_eq_getElem?_getD,List.getElem?_eq_getElem lc,Option.getD_some]
  exact f.classes _ (List.getElem_mem lc)
 have ξ:qa F.1/\qa F.2:=by
  rw[Q,d]
  simp only[Yo,Int.toNat_natCast,List.getD_eq_getElem?_getD,List.getElem?_eq_getElem le,Option.getD_some]
  exact f.elements _ (List.getElem_mem le)
 have ο:qa (e.units,1):=⟨by have:=H.units;unfold Fit;omega,by simp[Fit]⟩
 have look:∀(L:List Ob) (k:Nat),(h++L)[h.length+k]? =L[k]? :=λL k=>zl rfl
 refine zd (z _ (h.length+3) 0 201 (n,1) s.pace yC (by rw[look];rfl) (u _ _ σ f.pace)) ?_
 rintro _ G ⟨rfl,p⟩
 subst p
 obtain ⟨Z,ζ⟩:∃Z,Z=xN yC (n,1) s.pace 0:=⟨_,rfl⟩
 rw[<-ζ]
 have fx1:qa Z.1:=by rw[ζ];exact fm _ _ _
 simp only[go_sem,d,l,m,C,D,A,o,N,K,I,q,List.length_map,Int.toNat_natCast,Int.natCast_nonneg]
 refine zd (z _ (h.length+3) Z.2 201 Z.1 ge yC (by rw[look];rfl) (u _ _ fx1 fge)) ?_
 rintro _ G ⟨rfl,p⟩
 subst p
 obtain ⟨x2,Y⟩:∃x2,x2=xN yC Z.1 ge Z.2:=⟨_,rfl⟩
 rw[<-Y]
 simp only[go_sem,d,l,m,C,D,A,o,N,K,I,q,List.length_map,Int.toNat_natCast,Int.natCast_nonneg]
 have fx2:qa x2.1:=by rw[Y];exact fm _ _ _
 refine zp rfl [.res] 1 [(0,0,[]),(1,0,[]),(2,0,[]),(4,0,[]),(5,0,[]),(7,0,[]),(8,0,[]),(3,0,[]),(6,0,[]),(9,0,[]),(10,0,[3,6]),(11,0,[3]),(12,0,[]),(13,0,[]),(14,0,[])] rfl (by decide) (by decide) ?_
 simp only[go_sem,d,l,m,C,D,A,o,N,K,I,q,List.length_map,Int.toNat_natCast,Int.natCast_nonneg]
 refine zd (c62 e.units _) ?_
 rintro _ G ⟨rfl,p⟩
 subst p
 simp only[go_sem,d,l,m,C,D,A,o,N,K,I,q,List.length_map,Int.toNat_natCast,Int.natCast_nonneg]
 refine zd (z _ (h.length+3) x2.2 201 F.2 (e.units,1) yC (by rw[look];rfl) (u _ _ ξ.2 ο)) ?_
 rintro _ G ⟨rfl,p⟩
 subst p
 obtain ⟨x3,T⟩:∃x3,x3=xN yC F.2 (e.units,1) x2.2:=⟨_,rfl⟩
 rw[<-T]
 simp only[go_sem,d,l,m,C,D,A,o,N,K,I,q,List.length_map,Int.toNat_natCast,Int.natCast_nonneg]
 have fx3:qa x3.1:=by rw[T];exact fm _ _ _
 refine zd (z _ (h.length+3) x3.2 199 F.1 x3.1 Yn (by rw[look];rfl) (P _ _ ξ.1 fx3)) ?_
 rintro _ G ⟨rfl,p⟩
 subst p
 obtain ⟨x4,β⟩:∃x4,x4=xN Yn F.1 x3.1 x3.2:=⟨_,rfl⟩
 rw[<-β]
 simp only[go_sem,d,l,m,C,D,A,o,N,K,I,q,List.length_map,Int.toNat_natCast,Int.natCast_nonneg]
 have fx4:qa x4.1:=by rw[β];exact fa _ _ _
 refine zp rfl [] 0 [(0,0,[]),(2,0,[]),(4,0,[]),(1,0,[]),(3,0,[]),(5,0,[]),(6,0,[]),(7,0,[]),(8,0,[]),(9,0,[])] rfl (by decide) (by decide) ?_
 simp only[go_sem,d,l,m,C,D,A,o,N,K,I,q,List.length_map,Int.toNat_natCast,Int.natCast_nonneg]
 refine zd (z _ (h.length+3) x4.2 201 x4.1 cl yC (by rw[look];rfl) (u _ _ fx4 fcl)) ?_
 rintro _ G ⟨rfl,p⟩
 subst p
 obtain ⟨x5,α⟩:∃x5,x5=xN yC x4.1 cl x4.2:=⟨_,rfl⟩
 rw[<-α]
 simp only[go_sem,d,l,m,C,D,A,o,N,K,I,q,List.length_map,Int.toNat_natCast,Int.natCast_nonneg]
 have fx5:qa x5.1:=by rw[α];exact fm _ _ _
 refine zd (c18 (wr (100+s.allow)) 100 (xC _) (by simp[Fit]) _) ?_
 rintro _ G ⟨rfl,p⟩
 subst p
 simp only[go_sem]
 refine zp rfl [.res] 1 [(0,0,[]),(1,0,[]),(2,0,[]),(3,0,[]),(4,0,[]),(6,0,[]),(5,0,[6]),(7,0,[]),(8,0,[]),(9,0,[])] rfl (by decide) (by decide) ?_
 simp only[go_sem,d,l,m,C,D,A,o,N,K,I,q,List.length_map,Int.toNat_natCast,Int.natCast_nonneg]
 refine zd (z _ (h.length+3) x5.2 199 x2.1 x5.1 Yn (by rw[look];rfl) (P _ _ fx2 fx5)) ?_
 rintro _ G ⟨rfl,p⟩
 subst p
 obtain ⟨W,S⟩:∃W,W=xN Yn x2.1 x5.1 x5.2:=⟨_,rfl⟩
 rw[<-S]
 simp only[go_sem,d,l,m,C,D,A,o,N,K,I,q,List.length_map,Int.toNat_natCast,Int.natCast_nonneg]
 have fx6:qa W.1:=by rw[S];exact fa _ _ _
 refine zd (z _ (h.length+3) W.2 201 W.1 (make (wr (100+s.allow)) 100).1 yC (by rw[look];rfl) (u _ _ fx6 (wF _ _))) ?_
 rintro _ G ⟨rfl,p⟩
 subst p
 obtain ⟨x7,μ⟩:∃x7,x7=xN yC W.1 (make (wr (100+s.allow)) 100).1 W.2:=⟨_,rfl⟩
 rw[<-μ]
 simp only[go_sem,d,l,m,C,D,A,o,N,K,I,q,List.length_map,Int.toNat_natCast,Int.natCast_nonneg]
 have O:wy s e n=x7:=by
  unfold wy
  rw[<-Q, <-V, <-X]
  simp only
  rw[<-ζ, <-Y, <-T, <-β, <-α, <-S, <-μ]
 rw[O] at E
 refine ways (λe7=>?_) (λe7=>?_)
 ·have g7:¬ x7.2=0:=by simpa using e7
  rw[if_neg g7] at E
  rw[E]
  simp only[go_sem]
  refine zp rfl [] 0 [(0,0,[]),(1,0,[]),(2,0,[1]),(3,0,[])] rfl (by decide) (by decide) ?_
  simp only[go_sem]
  (first | refine zc ?_ | refine ze ?_ (by rfl))<;>(simp only[go_sem]<;>try rfl)
 ·have g7:x7.2=0:=by simpa using e7
  rw[if_pos g7] at E
  rw[E]
  simp only[go_sem]
  (first | refine zc ?_ | refine ze ?_ (by rfl))<;>(simp only[go_sem]<;>try rfl)
end Go.Proofs.YtigdlmpjijhpaaaGreat.Ax
