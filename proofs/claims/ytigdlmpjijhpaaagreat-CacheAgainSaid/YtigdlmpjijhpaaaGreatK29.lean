import Derived.Test.YtigdlmpjijhpaaaGreatKA
import Derived.Test.YtigdlmpjijhpaaaGreatK26
import Derived.Test.YtigdlmpjijhpaaaGreatK28
set_option linter.all false
namespace Go.Proofs.YtigdlmpjijhpaaaGreat.Ax
open Go Go.Proofs
set_option maxRecDepth 100000
theorem c59(h:List Ob)(s:Setup)(a:SA)(k:SIn h s a)(f:SFit s)(m:z6 s=true)(x y:Nat)(i:x<s.places.toNat)(z:y<s.places.toNat):
  ACalls Tryz.prog 197 [je s a,i64 x,i64 y] h λr h'=>r=i64 (kN (ZM s) x y)/\h'=h:=by
 have q:decide ((x:Int)<0)=false:=by simp
 have p:decide ((y:Int)<0)=false:=by simp
 refine zi Tryz.f197 [.tmp 6] 35 rfl rfl rfl rfl rfl rfl (by decide) (⟨_,_,⟨rfl,rfl⟩,.refl⟩) λB=>?_
 simp only[go_sem,k.w.one,k.e.one,k.c.one,k.g.one,k.r.one,k.t.one]
 refine zg (c91 _ s a (k.app _) f m) ?_
 rintro _ E ⟨L,out,st,ids,o,rfl,n1,rfl,b⟩
 obtain⟨G,l,D,F⟩:=b.ix i
 obtain⟨X,j,A,v⟩:=b.rd l i
 have d:=v y z
 have rx:=b.row
 have ex:decide ((x:Int)≥(ids.length:Int))=false:=by simp[b.len];omega
 have C:decide ((y:Int)≥(ids.length:Int))=false:=by simp[b.len];omega
 have n:(x:Int)<(ids.length:Int):=by rw[b.len];omega
 have u:(y:Int)<(X.length:Int):=by rw[A];omega
 simp only[zt,List.cons_append,List.nil_append] at rx j
 simp only[go_sem,q,p,rx,zb,ex,C,qt,D,j,d,n,u,Int.toNat_natCast,zh]
 refine zn ?_<;>(simp only[go_sem]<;>try rfl)
theorem QK:jq (0,0):=⟨by simp[Fit],by simp[Fit]⟩
theorem kLa:∀(l:List qx) (z:qx),jq z->jq (WX z l).1
 | [],z,h=>by unfold WX;exact h
 | x::l,z,h=>by
   unfold WX
   split
   ·exact QK
   ·exact kLa l _ (KZ _ _ _)
theorem yUa(l:List qx):jq (Za l).1:=by
 unfold Za
 split
 ·exact kLa l _ ⟨by simp[Fit],by simp[Fit]⟩
 ·exact QK
theorem zCa{f:qx->qx->qx × Int}(c:∀a b,jq (f a b).1)(a b:qx)(w:Int):jq (wu f a b w).1:=by
 unfold wu
 simp only
 split
 ·exact c a b
 ·exact QK
structure TaskIn (s:Setup) (e:Ev):Prop where
 from_:0<=e.from_/\e.from_<s.places
 to_:0<=e.to_/\e.to_<s.places
 element:0<=e.element/\e.element<s.elements.length
 class_:0<=e.class_/\e.class_<s.classes.length
 gear:0<=e.gear/\e.gear<s.gears.length
 units:0<=e.units/\e.units<=10000
theorem Wra{s:Setup}{e:Ev}(h:vK s e=true)(b:e.kind=3):TaskIn s e:=by
 have a:=yC h
 simp only[jQ,kZ,b,if_true,zq,Bool.not_not,Bool.not_eq_true',decide_eq_false_iff_not] at a
 obtain⟨_,_,_,_,n,l,j,i,f5,f6,_⟩:=a
 unfold vK at h
 rw[b] at h
 simp only[if_true,Q9,List.all_cons,List.all_nil,zq,Bool.not_not,Bool.not_eq_true',decide_eq_false_iff_not] at h
 obtain⟨_,_,m,c,d,f,k,g,_⟩:=h
 exact⟨by omega,by omega,by omega,by omega,by omega,by omega⟩
def kMa(D:Mat):Prop:=∀r∈D,∀z∈r,Fit z
theorem Wsa{D:Mat}(h:kMa D)(a b:Nat):Fit (kN D a b):=by
 unfold kN
 rw[zZ,zZ]
 by_cases d:a<D.length
 ·rw[zj d]
  simp only[Option.getD_some]
  by_cases c:b<D[a].length
  ·rw[zj c];exact h _ (zy d) _ (zy c)
  ·rw[qB (l:=D[a]) (i:=b) (by omega)];simp[Fit]
 ·rw[qB (l:=D) (i:=a) (by omega)];simp[Fit]
theorem V4{D:Mat}(h:kMa D){a b:Nat}{n:Int}(f:Fit n):kMa (ww D a b n):=by
 unfold ww
 split
 ·intro r d z c
  rcases List.mem_or_eq_of_mem_set d with d|rfl
  ·exact h r d z c
  ·rcases List.mem_or_eq_of_mem_set c with c|rfl
   ·by_cases e:a<D.length
    ·rw[zZ,zj e] at c
     exact h _ (zy e) z c
    ·rw[zZ,qB (l:=D) (i:=a) (by omega)] at c
     cases c
   ·exact f
 ·exact h
theorem QL{α:Type}{f:Mat->α->Mat}:∀(l:List α) (D:Mat),(∀D,∀x∈l,kMa D->kMa (f D x))->kMa D->kMa (l.foldl f D)
 | [],_,_,h=>h
 | x::l,D,a,h=>QL l (f D x) (λD y b=>a D y (.tail _ b)) (a D x (.head _) h)
theorem wFa{s:Setup}(e:z6 s=true):kMa (ZM s):=by
 have f:∀w∈s.ways,Fit w.2.2:=λw a=>by
  simp only[z6,yU,zq] at e
  have d:=e.1.1.1.2
  simp only[Bool.not_eq_true',List.any_eq_false] at d
  have:=d w a
  simp[JY,QA,qia] at this
  unfold Fit
  omega
 unfold ZM
 refine QL _ _ (λD y _ h=>QL _ _ (λD x _ h=>?_) h) (QL _ _ (λD w a h=>V4 (V4 h (f w a)) (f w a)) ?_)
 ·unfold zra
  split
  ·exact h
  ·refine QL _ _ (λD b _ h=>?_) h
   unfold zqa
   split
   ·exact V4 h (wF _)
   ·exact h
 ·intro r g z c
  obtain⟨i,_,rfl⟩:=zr.1 g
  rcases List.mem_or_eq_of_mem_set c with c|rfl
  ·rw[List.eq_of_mem_replicate c];simp[Fit]
  ·simp[Fit]
set_option maxHeartbeats 4000000 in
theorem c22(h:List Ob)(s:Setup)(a:SA)(k:SIn h s a)(f:SFit s)(e:Ev):
  ACalls Tryz.prog 126 [je s a,evV e] h λr h'=>r=KY (xS s e)/\h'=h:=by
 refine zi Tryz.f126 [.cell 4 24,.tmp 5] 105 rfl rfl rfl rfl rfl rfl (by decide) (⟨_,_,⟨rfl,rfl⟩,.refl⟩) λB=>?_
 simp only[go_sem,k.w.one,k.e.one,k.c.one,k.g.one,k.r.one,k.t.one]
 refine zg (c16 _ s a (k.app _) f) ?_
 rintro _ G ⟨rfl,p⟩
 subst p
 cases q1:z6 s
 ·have D:xS s e=((0,0),100):=by simp[xS,q1]
  rw[D]
  simp only[go_sem,q1,qt,Bool.not_false]
  refine zn ?_<;>(simp only[go_sem]<;>try rfl)
 have kk:∀M,SIn (h++M) s a:=λM=>k.app M
 simp only[go_sem,q1,qt,Bool.not_true,(kk _).w.one,(kk _).e.one,(kk _).c.one,(kk _).g.one,(kk _).r.one,(kk _).t.one]
 refine zg (c14 _ s a (k.app _) e) ?_
 rintro _ G ⟨rfl,p⟩
 subst p
 cases T:vK s e
 ·have D:xS s e=((0,0),100):=by simp[xS,T]
  rw[D]
  simp only[go_sem,T,qt,Bool.not_false]
  refine zn ?_<;>(simp only[go_sem]<;>try rfl)
 cases q3:e.kind != 3
 rotate_left
 ·have D:xS s e=((0,0),100):=by
   have:(e.kind==3)=false:=by simpa using q3
   simp[xS,this]
  rw[D]
  simp only[go_sem,T,q3,qt,Bool.not_true]
  refine zn ?_<;>(simp only[go_sem]<;>try rfl)
 have γ:e.kind=3:=by simpa using q3
 have K:=Wra T γ
 obtain⟨x,hx⟩:=Int.eq_ofNat_of_zero_le K.from_.1
 obtain⟨y,hy⟩:=Int.eq_ofNat_of_zero_le K.to_.1
 simp only[go_sem,T,q3,qt,Bool.not_true,hx,hy,(kk _).w.one,(kk _).e.one,(kk _).c.one,(kk _).g.one,(kk _).r.one,(kk _).t.one]
 have hpl:x<s.places.toNat:=by have:=K.from_.2;omega
 have ν:y<s.places.toNat:=by have:=K.to_.2;omega
 refine zg (c59 _ s a (kk _) f q1 x y hpl ν) ?_
 rintro _ G ⟨rfl,p⟩
 subst p
 have I:Qua s e=kN (ZM s) x y:=by unfold Qua;rw[hx,hy];rfl
 obtain⟨n,hf⟩:∃n,n=kN (ZM s) x y:=⟨_,rfl⟩
 rw[<-hf] at I⊢
 have hff:Fit n:=by rw[hf];exact Wsa (wFa q1) x y
 cases q4:n== -1
 rotate_left
 ·have g4:n= -1:=by simpa using q4
  have D:xS s e=((0,0),100):=by
   unfold xS
   rw[q1,T,I,g4]
   simp[γ]
  rw[D]
  simp only[go_sem,q4]
  refine zn ?_<;>(simp only[go_sem]<;>try rfl)
 have g4:¬ n= -1:=by simpa using q4
 have D:xS s e=if(ZN s e n).2=0 then((ZN s e n).1,0) else((0,0),(ZN s e n).2):=by
  unfold xS
  rw[q1,T,I,if_neg g4]
  simp[γ]
 obtain⟨ie,m⟩:=Int.eq_ofNat_of_zero_le K.element.1
 obtain⟨ig,d⟩:=Int.eq_ofNat_of_zero_le K.gear.1
 obtain⟨ic,l⟩:=Int.eq_ofNat_of_zero_le K.class_.1
 have le:ie<s.elements.length:=by have:=K.element.2;omega
 have lg:ig<s.gears.length:=by have:=K.gear.2;omega
 have lc:ic<s.classes.length:=by have:=K.class_.2;omega
 have leI:(ie:Int)<(s.elements.length:Int):=by omega
 have o:(ig:Int)<(s.gears.length:Int):=by omega
 have q:(ic:Int)<(s.classes.length:Int):=by omega
 have eE:∀M,eOf (h++M) a.e=some 4:=λM=>(kk M).e.at (i:=ie) (by simpa using le)
 have C:∀M,eOf (h++M) a.g=some 2:=λM=>(kk M).g.at (i:=ig) (by simpa using lg)
 have N:∀M,eOf (h++M) a.c=some 2:=λM=>(kk M).c.at (i:=ic) (by simpa using lc)
 have rE:∀M,qa (h++M) a.e=some (s.elements.map JF):=λM=>(kk M).e.rows
 have A:∀M,qa (h++M) a.g=some (s.gears.map jH):=λM=>(kk M).g.rows
 have J:∀M,qa (h++M) a.c=some (s.classes.map jH):=λM=>(kk M).c.rows
 obtain⟨F,Y⟩:∃F,F=kwa s.elements e.element:=⟨_,rfl⟩
 obtain⟨ge,Q⟩:∃ge,ge=WB s.gears e.gear:=⟨_,rfl⟩
 obtain⟨V,η⟩:∃V,V=WB s.classes e.class_:=⟨_,rfl⟩
 have gE:(s.elements.map JF)[ie]? =some [i64 F.1.1,i64 F.1.2,i64 F.2.1,i64 F.2.2]:=by
  rw[Y,m,zz,zj le]
  simp[kwa,zZ,le,JF]
 have E:(s.gears.map jH)[ig]? =some [i64 ge.1,i64 ge.2]:=by
  rw[Q,d,zz,zj lg]
  simp[WB,zZ,lg,jH]
 have H:(s.classes.map jH)[ic]? =some [i64 V.1,i64 V.2]:=by
  rw[η,l,zz,zj lc]
  simp[WB,zZ,lc,jH]
 simp only[go_sem,q4,m,d,l,eE,rE,gE,leI,zb,Int.toNat_natCast,zh]
 refine zL rfl [.res] 1 [(0,0,[]),(1,0,[]),(2,0,[]),(3,0,[]),(5,0,[]),(8,0,[]),(10,0,[]),(6,0,[]),(9,0,[]),(11,0,[]),(12,0,[]),(13,0,[]),(4,0,[6,9,11,12,13]),(7,0,[9,11,12,13]),(14,0,[]),(15,0,[]),(16,0,[])] rfl (by decide) (by decide) ?_
 simp only[go_sem,m,d,l,C,A,E,o,zb,Int.toNat_natCast,zh]
 refine zg (c62 n _) ?_
 rintro _ G ⟨rfl,p⟩
 subst p
 simp only[go_sem,m,d,l,C,A,E,o,zb,Int.toNat_natCast,zh]
 have z:∀(h:List Ob) (j:Nat) (w:Int) (g:FuncId) (a b:qx) (v:qx->qx->qx × Int),h[j]? =some (.box 37 [i64 w])->(∀h,ACalls Tryz.prog g [rat a,rat b] h λr h'=>r=KY (v a b)/\h'=h)->
   ACalls Tryz.prog 198 [.fn (.func g) [] [],rat a,rat b,.ptr j 0] h λr h'=>r=rat (wu v a b w).1/\h'=h.set j (.box 37 [i64 (wu v a b w).2]):=λh j w g a b v hj hc=>c60 h j w g a b (v a b) hj λL=>hc _
 have u:∀(a b:qx),jq a->jq b->∀h,ACalls Tryz.prog 201 [rat a,rat b] h λr h'=>r=KY (JG a b)/\h'=h:=λa b ha hb h=>c24 a b ha hb h
 have add0:∀(a b:qx),jq a->jq b->∀h,ACalls Tryz.prog 199 [rat a,rat b] h λr h'=>r=KY (kva a b)/\h'=h:=λa b ha hb h=>c61 a b ha hb h
 have fm:∀a b w,jq (wu JG a b w).1:=λa b w=>zCa (λ_ _=>KZ _ _ _) a b w
 have fa:∀a b w,jq (wu kva a b w).1:=λa b w=>zCa (λ_ _=>yUa _) a b w
 have ι:jq (n,1):=⟨hff,by simp[Fit]⟩
 have fge:jq ge:=by
  rw[Q,d]
  simp only[WB,Int.toNat_natCast,zZ,zj lg,Option.getD_some]
  exact f.gears _ (zy lg)
 have fcl:jq V:=by
  rw[η,l]
  simp only[WB,Int.toNat_natCast,zZ,zj lc,Option.getD_some]
  exact f.classes _ (zy lc)
 have ρ:jq F.1/\jq F.2:=by
  rw[Y,m]
  simp only[kwa,Int.toNat_natCast,zZ,zj le,Option.getD_some]
  exact f.elements _ (zy le)
 have ξ:jq (e.units,1):=⟨by have:=K.units;unfold Fit;omega,by simp[Fit]⟩
 have look:∀(L:List Ob) (k:Nat),(h++L)[h.length+k]? =L[k]? :=λL k=>zG rfl
 refine zg (z _ (h.length+3) 0 201 (n,1) s.pace JG (by rw[look];rfl) (u _ _ ι f.pace)) ?_
 rintro _ G ⟨rfl,p⟩
 subst p
 obtain⟨P,ζ⟩:∃P,P=wu JG (n,1) s.pace 0:=⟨_,rfl⟩
 rw[<-ζ]
 have fx1:jq P.1:=by rw[ζ];exact fm _ _ _
 simp only[go_sem,m,d,l,C,A,E,o,N,J,H,q,zb,Int.toNat_natCast,zh]
 refine zg (z _ (h.length+3) P.2 201 P.1 ge JG (by rw[look];rfl) (u _ _ fx1 fge)) ?_
 rintro _ G ⟨rfl,p⟩
 subst p
 obtain⟨x2,W⟩:∃x2,x2=wu JG P.1 ge P.2:=⟨_,rfl⟩
 rw[<-W]
 simp only[go_sem,m,d,l,C,A,E,o,N,J,H,q,zb,Int.toNat_natCast,zh]
 have fx2:jq x2.1:=by rw[W];exact fm _ _ _
 refine zL rfl [.res] 1 [(0,0,[]),(1,0,[]),(2,0,[]),(4,0,[]),(5,0,[]),(7,0,[]),(8,0,[]),(3,0,[]),(6,0,[]),(9,0,[]),(10,0,[3,6]),(11,0,[3]),(12,0,[]),(13,0,[]),(14,0,[])] rfl (by decide) (by decide) ?_
 simp only[go_sem,m,d,l,C,A,E,o,N,J,H,q,zb,Int.toNat_natCast,zh]
 refine zg (c62 e.units _) ?_
 rintro _ G ⟨rfl,p⟩
 subst p
 simp only[go_sem,m,d,l,C,A,E,o,N,J,H,q,zb,Int.toNat_natCast,zh]
 refine zg (z _ (h.length+3) x2.2 201 F.2 (e.units,1) JG (by rw[look];rfl) (u _ _ ρ.2 ξ)) ?_
 rintro _ G ⟨rfl,p⟩
 subst p
 obtain⟨x3,β⟩:∃x3,x3=wu JG F.2 (e.units,1) x2.2:=⟨_,rfl⟩
 rw[<-β]
 simp only[go_sem,m,d,l,C,A,E,o,N,J,H,q,zb,Int.toNat_natCast,zh]
 have fx3:jq x3.1:=by rw[β];exact fm _ _ _
 refine zg (z _ (h.length+3) x3.2 199 F.1 x3.1 kva (by rw[look];rfl) (add0 _ _ ρ.1 fx3)) ?_
 rintro _ G ⟨rfl,p⟩
 subst p
 obtain⟨X,Z⟩:∃X,X=wu kva F.1 x3.1 x3.2:=⟨_,rfl⟩
 rw[<-Z]
 simp only[go_sem,m,d,l,C,A,E,o,N,J,H,q,zb,Int.toNat_natCast,zh]
 have fx4:jq X.1:=by rw[Z];exact fa _ _ _
 refine zL rfl [] 0 [(0,0,[]),(2,0,[]),(4,0,[]),(1,0,[]),(3,0,[]),(5,0,[]),(6,0,[]),(7,0,[]),(8,0,[]),(9,0,[])] rfl (by decide) (by decide) ?_
 simp only[go_sem,m,d,l,C,A,E,o,N,J,H,q,zb,Int.toNat_natCast,zh]
 refine zg (z _ (h.length+3) X.2 201 X.1 V JG (by rw[look];rfl) (u _ _ fx4 fcl)) ?_
 rintro _ G ⟨rfl,p⟩
 subst p
 obtain⟨x5,R⟩:∃x5,x5=wu JG X.1 V X.2:=⟨_,rfl⟩
 rw[<-R]
 simp only[go_sem,m,d,l,C,A,E,o,N,J,H,q,zb,Int.toNat_natCast,zh]
 have fx5:jq x5.1:=by rw[R];exact fm _ _ _
 refine zg (c18 (wr (100+s.allow)) 100 (wF _) (by simp[Fit]) _) ?_
 rintro _ G ⟨rfl,p⟩
 subst p
 simp only[go_sem]
 refine zL rfl [.res] 1 [(0,0,[]),(1,0,[]),(2,0,[]),(3,0,[]),(4,0,[]),(6,0,[]),(5,0,[6]),(7,0,[]),(8,0,[]),(9,0,[])] rfl (by decide) (by decide) ?_
 simp only[go_sem,m,d,l,C,A,E,o,N,J,H,q,zb,Int.toNat_natCast,zh]
 refine zg (z _ (h.length+3) x5.2 199 x2.1 x5.1 kva (by rw[look];rfl) (add0 _ _ fx2 fx5)) ?_
 rintro _ G ⟨rfl,p⟩
 subst p
 obtain⟨U,S⟩:∃U,U=wu kva x2.1 x5.1 x5.2:=⟨_,rfl⟩
 rw[<-S]
 simp only[go_sem,m,d,l,C,A,E,o,N,J,H,q,zb,Int.toNat_natCast,zh]
 have fx6:jq U.1:=by rw[S];exact fa _ _ _
 refine zg (z _ (h.length+3) U.2 201 U.1 (make (wr (100+s.allow)) 100).1 JG (by rw[look];rfl) (u _ _ fx6 (Qz _ _))) ?_
 rintro _ G ⟨rfl,p⟩
 subst p
 obtain⟨x7,ο⟩:∃x7,x7=wu JG U.1 (make (wr (100+s.allow)) 100).1 U.2:=⟨_,rfl⟩
 rw[<-ο]
 simp only[go_sem,m,d,l,C,A,E,o,N,J,H,q,zb,Int.toNat_natCast,zh]
 have O:ZN s e n=x7:=by
  unfold ZN
  rw[<-Y, <-Q, <-η]
  simp only
  rw[<-ζ, <-W, <-β, <-Z, <-R, <-S, <-ο]
 rw[O] at D
 refine ways (λe7=>?_) (λe7=>?_)
 ·have g7:¬ x7.2=0:=by simpa using e7
  rw[if_neg g7] at D
  rw[D]
  simp only[go_sem]
  refine zL rfl [] 0 [(0,0,[]),(1,0,[]),(2,0,[1]),(3,0,[])] rfl (by decide) (by decide) ?_
  simp only[go_sem]
  refine zn ?_<;>(simp only[go_sem]<;>try rfl)
 ·have g7:x7.2=0:=by simpa using e7
  rw[if_pos g7] at D
  rw[D]
  simp only[go_sem]
  refine zn ?_<;>(simp only[go_sem]<;>try rfl)
