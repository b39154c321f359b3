/-
  Joined.
-/
import Derived.Test.YtfmldcilgbbimaaGreatK26
import Derived.Test.YtfmldcilgbbimaaGreatK28
set_option linter.unusedSimpArgs false
set_option linter.unusedVariables false
namespace Go.Proofs.YtfmldcilgbbimaaGreat.Ax
open Go Go.Proofs
set_option maxRecDepth 100000
theorem c59 (h:List Ob) (s:Setup) (a:SA) (k:SIn h s a) (f:SFit s) (u:zz s=true) (x y:Nat) (j:x<s.places.toNat) (q:y<s.places.toNat):
  ACalls Tryz.prog 179 [qh s a,i64 x,i64 y] h λr h'=>r=i64 (jm (vK s) x y)/\h'=h:=by
 have n:decide ((x:Int)<0)=false:=by simp
 have z:decide ((y:Int)<0)=false:=by simp
 refine zf Tryz.f179 [.tmp 6] 35 rfl rfl rfl rfl rfl rfl (by decide) (⟨_,_,⟨rfl,rfl⟩,.refl⟩) λB=>?_
 simp only[go_sem,k.w.one,k.e.one,k.c.one,k.g.one,k.r.one,k.t.one]
 refine zd (c91 _ s a (k.app _) f u) ?_
 rintro _ F ⟨L,out,st,ids,o,rfl,n1,rfl,b⟩
 obtain ⟨G,A,v,E⟩:=b.ix j
 obtain ⟨X,i,l,p⟩:=b.rd A j
 have d:=p y q
 have rx:=b.row
 have ex:decide ((x:Int)≥(ids.length:Int))=false:=by simp[b.len];omega
 have C:decide ((y:Int)≥(ids.length:Int))=false:=by simp[b.len];omega
 have m:(x:Int)<(ids.length:Int):=by rw[b.len];omega
 have D:(y:Int)<(X.length:Int):=by rw[l];omega
 simp only[List.append_assoc,List.cons_append,List.nil_append] at rx i
 simp only[go_sem,n,z,rx,List.length_map,ex,C,zM,v,i,d,m,D,Int.toNat_natCast,Int.natCast_nonneg]
 (first | refine zc ?_ | refine ze ?_ (by rfl))<;>(simp only[go_sem]<;>try rfl)
theorem wI:zY (0,0):=⟨by simp[Fit],by simp[Fit]⟩
theorem Yt:∀(l:List zx) (z:zx),zY z->zY (JH z l).1
 | [],z,h=>by unfold JH;exact h
 | x::l,z,h=>by
   unfold JH
   split
   ·exact wI
   ·exact Yt l _ (Qj _ _ _)
theorem qGa (l:List zx):zY (kQ l).1:=by
 unfold kQ
 split
 ·exact Yt l _ ⟨by simp[Fit],by simp[Fit]⟩
 ·exact wI
theorem Kb {f:zx->zx->zx × Int} (c:∀a b,zY (f a b).1) (a b:zx) (w:Int):zY (xl f a b w).1:=by
 unfold xl
 simp only
 split
 ·exact c a b
 ·exact wI
structure TaskIn (s:Setup) (e:Ev):Prop where
 from_:0<=e.from_/\e.from_<s.places
 to_:0<=e.to_/\e.to_<s.places
 element:0<=e.element/\e.element<s.elements.length
 class_:0<=e.class_/\e.class_<s.classes.length
 gear:0<=e.gear/\e.gear<s.gears.length
 units:0<=e.units/\e.units<=10000
theorem wMa {s:Setup} {e:Ev} (h:yL s e=true) (a:e.kind=3):TaskIn s e:=by
 have b:=QS h
 simp only[qp,jv,a,if_true,Bool.and_eq_true,Bool.not_not,Bool.not_eq_true',decide_eq_false_iff_not] at b
 obtain ⟨_,_,_,_,m,c,n,i,f5,f6,_⟩:=b
 unfold yL at h
 rw[a] at h
 simp only[if_true,wW,List.all_cons,List.all_nil,Bool.and_eq_true,Bool.not_not,Bool.not_eq_true',decide_eq_false_iff_not] at h
 obtain ⟨_,_,l,d,g,f,k,j,_⟩:=h
 exact ⟨by omega,by omega,by omega,by omega,by omega,by omega⟩
def Yu (D:Mat):Prop:=∀r∈D,∀z∈r,Fit z
theorem wNa {D:Mat} (h:Yu D) (a b:Nat):Fit (jm D a b):=by
 unfold jm
 rw[List.getD_eq_getElem?_getD,List.getD_eq_getElem?_getD]
 by_cases c:a<D.length
 ·rw[List.getElem?_eq_getElem c]
  simp only[Option.getD_some]
  by_cases d:b<D[a].length
  ·rw[List.getElem?_eq_getElem d];exact h _ (List.getElem_mem c) _ (List.getElem_mem d)
  ·rw[List.getElem?_eq_none (l:=D[a]) (i:=b) (by omega)];simp[Fit]
 ·rw[List.getElem?_eq_none (l:=D) (i:=a) (by omega)];simp[Fit]
theorem Q5 {D:Mat} (h:Yu D) {a b:Nat} {n:Int} (f:Fit n):Yu (xn D a b n):=by
 unfold xn
 split
 ·intro r d z c
  rcases List.mem_or_eq_of_mem_set d with d | rfl
  ·exact h r d z c
  ·rcases List.mem_or_eq_of_mem_set c with c | rfl
   ·by_cases e:a<D.length
    ·rw[List.getD_eq_getElem?_getD,List.getElem?_eq_getElem e] at c
     exact h _ (List.getElem_mem e) z c
    ·rw[List.getD_eq_getElem?_getD,List.getElem?_eq_none (l:=D) (i:=a) (by omega)] at c
     cases c
   ·exact f
 ·exact h
theorem wJ {α:Type} {f:Mat->α->Mat}:∀(l:List α) (D:Mat),(∀D,∀x∈l,Yu D->Yu (f D x))->Yu D->Yu (l.foldl f D)
 | [],_,_,h=>h
 | x::l,D,a,h=>wJ l (f D x) (λD y b=>a D y (.tail _ b)) (a D x (.head _) h)
theorem zTa {s:Setup} (e:zz s=true):Yu (vK s):=by
 have f:∀w∈s.ways,Fit w.2.2:=λw a=>by
  simp only[zz,vD,Bool.and_eq_true] at e
  have d:=e.1.1.1.2
  simp only[Bool.not_eq_true',List.any_eq_false] at d
  have:=d w a
  simp[yH,wA,Ks] at this
  unfold Fit
  omega
 unfold vK
 refine wJ _ _ (λD y _ h=>wJ _ _ (λD x _ h=>?_) h) (wJ _ _ (λD w a h=>Q5 (Q5 h (f w a)) (f w a)) ?_)
 ·unfold XY
  split
  ·exact h
  ·refine wJ _ _ (λD b _ h=>?_) h
   unfold XX
   split
   ·exact Q5 h (xw _)
   ·exact h
 ·intro r g z c
  obtain ⟨i,_,rfl⟩:=List.mem_map.1 g
  rcases List.mem_or_eq_of_mem_set c with c | rfl
  ·rw[List.eq_of_mem_replicate c];simp[Fit]
  ·simp[Fit]
set_option maxHeartbeats 4000000 in
theorem c22 (h:List Ob) (s:Setup) (a:SA) (k:SIn h s a) (f:SFit s) (e:Ev):
  ACalls Tryz.prog 112 [qh s a,evV e] h λr h'=>r=Qi (jJ s e)/\h'=h:=by
 refine zf Tryz.f112 [.cell 4 24,.tmp 5] 105 rfl rfl rfl rfl rfl rfl (by decide) (⟨_,_,⟨rfl,rfl⟩,.refl⟩) λB=>?_
 simp only[go_sem,k.w.one,k.e.one,k.c.one,k.g.one,k.r.one,k.t.one]
 refine zd (c16 _ s a (k.app _) f) ?_
 rintro _ G ⟨rfl,p⟩
 subst p
 cases W:zz s
 ·have E:jJ s e=((0,0),100):=by simp[jJ,W]
  rw[E]
  simp only[go_sem,W,zM,Bool.not_false]
  (first | refine zc ?_ | refine ze ?_ (by rfl))<;>(simp only[go_sem]<;>try rfl)
 have kk:∀M,SIn (h++M) s a:=λM=>k.app M
 simp only[go_sem,W,zM,Bool.not_true,(kk _).w.one,(kk _).e.one,(kk _).c.one,(kk _).g.one,(kk _).r.one,(kk _).t.one]
 refine zd (c14 _ s a (k.app _) e) ?_
 rintro _ G ⟨rfl,p⟩
 subst p
 cases q2:yL s e
 ·have E:jJ s e=((0,0),100):=by simp[jJ,q2]
  rw[E]
  simp only[go_sem,q2,zM,Bool.not_false]
  (first | refine zc ?_ | refine ze ?_ (by rfl))<;>(simp only[go_sem]<;>try rfl)
 cases q3:e.kind != 3
 rotate_left
 ·have E:jJ s e=((0,0),100):=by
   have:(e.kind==3)=false:=by simpa using q3
   simp[jJ,this]
  rw[E]
  simp only[go_sem,q2,q3,zM,Bool.not_true]
  (first | refine zc ?_ | refine ze ?_ (by rfl))<;>(simp only[go_sem]<;>try rfl)
 have R:e.kind=3:=by simpa using q3
 have N:=wMa q2 R
 obtain ⟨x,hx⟩:=Int.eq_ofNat_of_zero_le N.from_.1
 obtain ⟨y,hy⟩:=Int.eq_ofNat_of_zero_le N.to_.1
 simp only[go_sem,q2,q3,zM,Bool.not_true,hx,hy,(kk _).w.one,(kk _).e.one,(kk _).c.one,(kk _).g.one,(kk _).r.one,(kk _).t.one]
 have hpl:x<s.places.toNat:=by have:=N.from_.2;omega
 have μ:y<s.places.toNat:=by have:=N.to_.2;omega
 refine zd (c59 _ s a (kk _) f W x y hpl μ) ?_
 rintro _ G ⟨rfl,p⟩
 subst p
 have H:jXa s e=jm (vK s) x y:=by unfold jXa;rw[hx,hy];rfl
 obtain ⟨n,hf⟩:∃n,n=jm (vK s) x y:=⟨_,rfl⟩
 rw[<-hf] at H⊢
 have hff:Fit n:=by rw[hf];exact wNa (zTa W) x y
 cases q4:n== -1
 rotate_left
 ·have g4:n= -1:=by simpa using q4
  have E:jJ s e=((0,0),100):=by
   unfold jJ
   rw[W,q2,H,g4]
   simp[R]
  rw[E]
  simp only[go_sem,q4]
  (first | refine zc ?_ | refine ze ?_ (by rfl))<;>(simp only[go_sem]<;>try rfl)
 have g4:¬ n= -1:=by simpa using q4
 have E:jJ s e=if (vL s e n).2=0 then ((vL s e n).1,0) else ((0,0),(vL s e n).2):=by
  unfold jJ
  rw[W,q2,H,if_neg g4]
  simp[R]
 obtain ⟨ie,m⟩:=Int.eq_ofNat_of_zero_le N.element.1
 obtain ⟨ig,d⟩:=Int.eq_ofNat_of_zero_le N.gear.1
 obtain ⟨ic,l⟩:=Int.eq_ofNat_of_zero_le N.class_.1
 have le:ie<s.elements.length:=by have:=N.element.2;omega
 have lg:ig<s.gears.length:=by have:=N.gear.2;omega
 have lc:ic<s.classes.length:=by have:=N.class_.2;omega
 have leI:(ie:Int)<(s.elements.length:Int):=by omega
 have o:(ig:Int)<(s.gears.length:Int):=by omega
 have q:(ic:Int)<(s.classes.length:Int):=by omega
 have eE:∀M,eOf (h++M) a.e=some 4:=λM=>(kk M).e.at (i:=ie) (by simpa using le)
 have A:∀M,eOf (h++M) a.g=some 2:=λM=>(kk M).g.at (i:=ig) (by simpa using lg)
 have I:∀M,eOf (h++M) a.c=some 2:=λM=>(kk M).c.at (i:=ic) (by simpa using lc)
 have rE:∀M,zo (h++M) a.e=some (s.elements.map QJ):=λM=>(kk M).e.rows
 have C:∀M,zo (h++M) a.g=some (s.gears.map qv):=λM=>(kk M).g.rows
 have K:∀M,zo (h++M) a.c=some (s.classes.map qv):=λM=>(kk M).c.rows
 obtain ⟨F,ε⟩:∃F,F=Ye s.elements e.element:=⟨_,rfl⟩
 obtain ⟨ge,T⟩:∃ge,ge=Jr s.gears e.gear:=⟨_,rfl⟩
 obtain ⟨Z,V⟩:∃Z,Z=Jr s.classes e.class_:=⟨_,rfl⟩
 have gE:(s.elements.map QJ)[ie]? =some [i64 F.1.1,i64 F.1.2,i64 F.2.1,i64 F.2.2]:=by
  rw[ε,m,List.getElem?_map,List.getElem?_eq_getElem le]
  simp[Ye,List.getD_eq_getElem?_getD,le,QJ]
 have D:(s.gears.map qv)[ig]? =some [i64 ge.1,i64 ge.2]:=by
  rw[T,d,List.getElem?_map,List.getElem?_eq_getElem lg]
  simp[Jr,List.getD_eq_getElem?_getD,lg,qv]
 have J:(s.classes.map qv)[ic]? =some [i64 Z.1,i64 Z.2]:=by
  rw[V,l,List.getElem?_map,List.getElem?_eq_getElem lc]
  simp[Jr,List.getD_eq_getElem?_getD,lc,qv]
 simp only[go_sem,q4,m,d,l,eE,rE,gE,leI,List.length_map,Int.toNat_natCast,Int.natCast_nonneg]
 refine zp rfl [.res] 1 [(0,0,[]),(1,0,[]),(2,0,[]),(3,0,[]),(5,0,[]),(8,0,[]),(10,0,[]),(6,0,[]),(9,0,[]),(11,0,[]),(12,0,[]),(13,0,[]),(4,0,[6,9,11,12,13]),(7,0,[9,11,12,13]),(14,0,[]),(15,0,[]),(16,0,[])] rfl (by decide) (by decide) ?_
 simp only[go_sem,m,d,l,A,C,D,o,List.length_map,Int.toNat_natCast,Int.natCast_nonneg]
 refine zd (c62 n _) ?_
 rintro _ G ⟨rfl,p⟩
 subst p
 simp only[go_sem,m,d,l,A,C,D,o,List.length_map,Int.toNat_natCast,Int.natCast_nonneg]
 have z:∀(h:List Ob) (j:Nat) (w:Int) (g:FuncId) (a b:zx) (v:zx->zx->zx × Int),h[j]? =some (.box 37 [i64 w])->(∀h,ACalls Tryz.prog g [rat a,rat b] h λr h'=>r=Qi (v a b)/\h'=h)->
   ACalls Tryz.prog 180 [.fn (.func g) [] [],rat a,rat b,.ptr j 0] h λr h'=>r=rat (xl v a b w).1/\h'=h.set j (.box 37 [i64 (xl v a b w).2]):=λh j w g a b v hj hc=>c60 h j w g a b (v a b) hj λL=>hc _
 have u:∀(a b:zx),zY a->zY b->∀h,ACalls Tryz.prog 183 [rat a,rat b] h λr h'=>r=Qi (yw a b)/\h'=h:=λa b ha hb h=>c24 a b ha hb h
 have P:∀(a b:zx),zY a->zY b->∀h,ACalls Tryz.prog 181 [rat a,rat b] h λr h'=>r=Qi (Yd a b)/\h'=h:=λa b ha hb h=>c61 a b ha hb h
 have fm:∀a b w,zY (xl yw a b w).1:=λa b w=>Kb (λ_ _=>Qj _ _ _) a b w
 have fa:∀a b w,zY (xl Yd a b w).1:=λa b w=>Kb (λ_ _=>qGa _) a b w
 have σ:zY (n,1):=⟨hff,by simp[Fit]⟩
 have fge:zY ge:=by
  rw[T,d]
  simp only[Jr,Int.toNat_natCast,List.getD_eq_getElem?_getD,List.getElem?_eq_getElem lg,Option.getD_some]
  exact f.gears _ (List.getElem_mem lg)
 have fcl:zY Z:=by
  rw[V,l]
  simp only[Jr,Int.toNat_natCast,List.getD_eq_getElem?_getD,List.getElem?_eq_getElem lc,Option.getD_some]
  exact f.classes _ (List.getElem_mem lc)
 have ο:zY F.1/\zY F.2:=by
  rw[ε,m]
  simp only[Ye,Int.toNat_natCast,List.getD_eq_getElem?_getD,List.getElem?_eq_getElem le,Option.getD_some]
  exact f.elements _ (List.getElem_mem le)
 have ν:zY (e.units,1):=⟨by have:=N.units;unfold Fit;omega,by simp[Fit]⟩
 have look:∀(L:List Ob) (k:Nat),(h++L)[h.length+k]? =L[k]? :=λL k=>zl rfl
 refine zd (z _ (h.length+3) 0 183 (n,1) s.pace yw (by rw[look];rfl) (u _ _ σ f.pace)) ?_
 rintro _ G ⟨rfl,p⟩
 subst p
 obtain ⟨S,θ⟩:∃S,S=xl yw (n,1) s.pace 0:=⟨_,rfl⟩
 rw[<-θ]
 have fx1:zY S.1:=by rw[θ];exact fm _ _ _
 simp only[go_sem,m,d,l,A,C,D,o,I,K,J,q,List.length_map,Int.toNat_natCast,Int.natCast_nonneg]
 refine zd (z _ (h.length+3) S.2 183 S.1 ge yw (by rw[look];rfl) (u _ _ fx1 fge)) ?_
 rintro _ G ⟨rfl,p⟩
 subst p
 obtain ⟨x2,ι⟩:∃x2,x2=xl yw S.1 ge S.2:=⟨_,rfl⟩
 rw[<-ι]
 simp only[go_sem,m,d,l,A,C,D,o,I,K,J,q,List.length_map,Int.toNat_natCast,Int.natCast_nonneg]
 have fx2:zY x2.1:=by rw[ι];exact fm _ _ _
 refine zp rfl [.res] 1 [(0,0,[]),(1,0,[]),(2,0,[]),(4,0,[]),(5,0,[]),(7,0,[]),(8,0,[]),(3,0,[]),(6,0,[]),(9,0,[]),(10,0,[3,6]),(11,0,[3]),(12,0,[]),(13,0,[]),(14,0,[])] rfl (by decide) (by decide) ?_
 simp only[go_sem,m,d,l,A,C,D,o,I,K,J,q,List.length_map,Int.toNat_natCast,Int.natCast_nonneg]
 refine zd (c62 e.units _) ?_
 rintro _ G ⟨rfl,p⟩
 subst p
 simp only[go_sem,m,d,l,A,C,D,o,I,K,J,q,List.length_map,Int.toNat_natCast,Int.natCast_nonneg]
 refine zd (z _ (h.length+3) x2.2 183 F.2 (e.units,1) yw (by rw[look];rfl) (u _ _ ο.2 ν)) ?_
 rintro _ G ⟨rfl,p⟩
 subst p
 obtain ⟨x3,ζ⟩:∃x3,x3=xl yw F.2 (e.units,1) x2.2:=⟨_,rfl⟩
 rw[<-ζ]
 simp only[go_sem,m,d,l,A,C,D,o,I,K,J,q,List.length_map,Int.toNat_natCast,Int.natCast_nonneg]
 have fx3:zY x3.1:=by rw[ζ];exact fm _ _ _
 refine zd (z _ (h.length+3) x3.2 181 F.1 x3.1 Yd (by rw[look];rfl) (P _ _ ο.1 fx3)) ?_
 rintro _ G ⟨rfl,p⟩
 subst p
 obtain ⟨x4,γ⟩:∃x4,x4=xl Yd F.1 x3.1 x3.2:=⟨_,rfl⟩
 rw[<-γ]
 simp only[go_sem,m,d,l,A,C,D,o,I,K,J,q,List.length_map,Int.toNat_natCast,Int.natCast_nonneg]
 have fx4:zY x4.1:=by rw[γ];exact fa _ _ _
 refine zp rfl [] 0 [(0,0,[]),(2,0,[]),(4,0,[]),(1,0,[]),(3,0,[]),(5,0,[]),(6,0,[]),(7,0,[]),(8,0,[]),(9,0,[])] rfl (by decide) (by decide) ?_
 simp only[go_sem,m,d,l,A,C,D,o,I,K,J,q,List.length_map,Int.toNat_natCast,Int.natCast_nonneg]
 refine zd (z _ (h.length+3) x4.2 183 x4.1 Z yw (by rw[look];rfl) (u _ _ fx4 fcl)) ?_
 rintro _ G ⟨rfl,p⟩
 subst p
 obtain ⟨X,Y⟩:∃X,X=xl yw x4.1 Z x4.2:=⟨_,rfl⟩
 rw[<-Y]
 simp only[go_sem,m,d,l,A,C,D,o,I,K,J,q,List.length_map,Int.toNat_natCast,Int.natCast_nonneg]
 have fx5:zY X.1:=by rw[Y];exact fm _ _ _
 refine zd (c18 (wr (100+s.allow)) 100 (xw _) (by simp[Fit]) _) ?_
 rintro _ G ⟨rfl,p⟩
 subst p
 simp only[go_sem]
 refine zp rfl [.res] 1 [(0,0,[]),(1,0,[]),(2,0,[]),(3,0,[]),(4,0,[]),(6,0,[]),(5,0,[6]),(7,0,[]),(8,0,[]),(9,0,[])] rfl (by decide) (by decide) ?_
 simp only[go_sem,m,d,l,A,C,D,o,I,K,J,q,List.length_map,Int.toNat_natCast,Int.natCast_nonneg]
 refine zd (z _ (h.length+3) X.2 181 x2.1 X.1 Yd (by rw[look];rfl) (P _ _ fx2 fx5)) ?_
 rintro _ G ⟨rfl,p⟩
 subst p
 obtain ⟨U,Q⟩:∃U,U=xl Yd x2.1 X.1 X.2:=⟨_,rfl⟩
 rw[<-Q]
 simp only[go_sem,m,d,l,A,C,D,o,I,K,J,q,List.length_map,Int.toNat_natCast,Int.natCast_nonneg]
 have fx6:zY U.1:=by rw[Q];exact fa _ _ _
 refine zd (z _ (h.length+3) U.2 183 U.1 (make (wr (100+s.allow)) 100).1 yw (by rw[look];rfl) (u _ _ fx6 (wz _ _))) ?_
 rintro _ G ⟨rfl,p⟩
 subst p
 obtain ⟨x7,ξ⟩:∃x7,x7=xl yw U.1 (make (wr (100+s.allow)) 100).1 U.2:=⟨_,rfl⟩
 rw[<-ξ]
 simp only[go_sem,m,d,l,A,C,D,o,I,K,J,q,List.length_map,Int.toNat_natCast,Int.natCast_nonneg]
 have O:vL s e n=x7:=by
  unfold vL
  rw[<-ε, <-T, <-V]
  simp only
  rw[<-θ, <-ι, <-ζ, <-γ, <-Y, <-Q, <-ξ]
 rw[O] at E
 refine ways (λe7=>?_) (λe7=>?_)
 ·have g7:¬ x7.2=0:=by simpa using e7
  rw[if_neg g7] at E
  rw[E]
  simp only[go_sem]
  refine zp rfl [] 0 [(0,0,[]),(1,0,[]),(2,0,[1]),(3,0,[])] rfl (by decide) (by decide) ?_
  simp only[go_sem]
  (first | refine zc ?_ | refine ze ?_ (by rfl))<;>(simp only[go_sem]<;>try rfl)
 ·have g7:x7.2=0:=by simpa using e7
  rw[if_pos g7] at E
  rw[E]
  simp only[go_sem]
  (first | refine zc ?_ | refine ze ?_ (by rfl))<;>(simp only[go_sem]<;>try rfl)
end Go.Proofs.YtfmldcilgbbimaaGreat.Ax
