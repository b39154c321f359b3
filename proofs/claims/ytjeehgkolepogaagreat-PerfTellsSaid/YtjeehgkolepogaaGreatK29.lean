import Derived.Test.YtjeehgkolepogaaGreatK28
set_option linter.all false
namespace Go.Proofs.YtjeehgkolepogaaGreat.Ax
open Go Go.Proofs
set_option maxRecDepth 100000
def c59(h:List Ob)(s:Setup)(a:SA)(k:SIn h s a)(f:SFit s)(v:zX s=true)(x y:Nat)(j:x<s.places.toNat)(m:y<s.places.toNat):
    ACalls Tryz.prog 65 [qE s a,i64 x,i64 y] h λr h'=>r=i64 (qm (xH s) x y)/\h'=h:=by
 have l:decide ((x:Int)<0)=false:=zh;have p:decide ((y:Int)<0)=false:=zh;refine enterQX Tryz.f65 λB=>?_;simp only[go_sem,k.w.one,k.e.one,k.c.one,k.g.one,k.r.one,k.t.one];refine zl (c91 _ s a (k.app _) f v) ?_;rintro _ G ⟨L,out,st,ids,o,rfl,n1,rfl,b⟩;obtain⟨E,D,n,F⟩:=b.ix j;obtain⟨X,i,z,u⟩:=b.rd D j;have d:=u y m;have rx:=b.row;have ex:decide ((x:Int)≥(ids.length:Int))=false:=by simp[b.len];omega
 have q:decide ((y:Int)≥(ids.length:Int))=false:=by simp[b.len];omega
 have C:(x:Int)<(ids.length:Int):=by rw[b.len];omega
 have A:(y:Int)<(X.length:Int):=by rw[z];omega
 simp only[zq,List.cons_append,List.nil_append] at rx i;simp only[go_sem,l,p,rx,zc,ex,q,qv,n,i,d,C,A,Int.toNat_natCast,zd];exact qt
def kw:qp (0,0):=⟨by simp[Fit],by simp[Fit]⟩
def Wh:∀(l:List zL) (z:zL),qp z->qp (Q9 z l).1
 | [],z,h=>by unfold Q9;exact h
 | x::l,z,h=>by
   unfold Q9;split
   ·exact kw
   ·exact Wh l _ (vV _ _ _)
def Qi(l:List zL):qp (jB l).1:=by
 unfold jB;split
 ·exact Wh l _ ⟨by simp[Fit],by simp[Fit]⟩
 ·exact kw
def Xk{f:zL->zL->zL × Int}(c:∀a b,qp (f a b).1)(a b:zL)(w:Int):qp (kp f a b w).1:=by
 unfold kp;simp only;split
 ·exact c a b
 ·exact kw
structure TaskIn (s:Setup) (e:Ev):Prop where
 from_:0<=e.from_/\e.from_<s.places
 to_:0<=e.to_/\e.to_<s.places
 element:0<=e.element/\e.element<s.elements.length
 class_:0<=e.class_/\e.class_<s.classes.length
 gear:0<=e.gear/\e.gear<s.gears.length
 units:0<=e.units/\e.units<=10000
def zda{s:Setup}{e:Ev}(h:km s e=true)(b:e.kind=3):TaskIn s e:=by
 have a:=Qx h;simp only[qV,jW,b,if_true,zi,Bool.not_not,Bool.not_eq_true',decide_eq_false_iff_not] at a;obtain⟨_,_,_,_,g,i,c,d,f5,f6,_⟩:=a;unfold km at h;rw[b] at h;simp only[if_true,vX,List.all_cons,List.all_nil,zi,Bool.not_not,Bool.not_eq_true',decide_eq_false_iff_not] at h;obtain⟨_,_,l,k,n,j,f,m,_⟩:=h;exact⟨zb,zb,zb,zb,zb,zb⟩
def Wi(D:Mat):Prop:=∀r∈D,∀z∈r,Fit z
def zea{D:Mat}(h:Wi D)(a b:Nat):Fit (qm D a b):=by
 unfold qm;rw[zn,zn];by_cases c:a<D.length
 ·rw[zg c];simp only[Option.getD_some];by_cases d:b<D[a].length
  ·rw[zg d];exact h _ (zx c) _ (zx d)
  ·rw[zR (l:=D[a]) (i:=b) zb];simp[Fit]
 ·rw[zR (l:=D) (i:=a) zb];simp[Fit]
def QE{D:Mat}(h:Wi D){a b:Nat}{n:Int}(f:Fit n):Wi (jY D a b n):=by
 unfold jY;split
 ·intro r d z c;rcases List.mem_or_eq_of_mem_set d with d|rfl
  ·exact h r d z c
  ·rcases List.mem_or_eq_of_mem_set c with c|rfl
   ·by_cases e:a<D.length
    ·rw[zn,zg e] at c;exact h _ (zx e) z c
    ·rw[zn,zR (l:=D) (i:=a) zb] at c;cases c
   ·exact f
 ·exact h
def yi{α:Type}{f:Mat->α->Mat}:∀(l:List α) (D:Mat),(∀D,∀x∈l,Wi D->Wi (f D x))->Wi D->Wi (l.foldl f D)
 | [],_,_,h=>h
 | x::l,D,a,h=>yi l (f D x) (λD y b=>a D y (.tail _ b)) (a D x (.head _) h)
def Xl{s:Setup}(e:zX s=true):Wi (xH s):=by
 have f:∀w∈s.ways,Fit w.2.2:=λw a=>by
  simp only[zX,xA,zi] at e;have d:=e.1.1.1.2;simp only[Bool.not_eq_true',List.any_eq_false] at d;have:=d w a;simp[vN,kY,Qq] at this;unfold Fit;omega
 unfold xH;refine yi _ _ (λD y _ h=>yi _ _ (λD x _ h=>?_) h) (yi _ _ (λD w a h=>QE (QE h (f w a)) (f w a)) ?_)
 ·unfold wR;split
  ·exact h
  ·refine yi _ _ (λD b _ h=>?_) h;unfold vp;split
   ·exact QE h (kz _)
   ·exact h
 ·intro r g z c;obtain⟨i,_,rfl⟩:=zQ.1 g;rcases List.mem_or_eq_of_mem_set c with c|rfl
  ·rw[List.eq_of_mem_replicate c];simp[Fit]
  ·simp[Fit]
set_option maxHeartbeats 4000000 in
def c22(h:List Ob)(s:Setup)(a:SA)(k:SIn h s a)(f:SFit s)(e:Ev):
    ACalls Tryz.prog 30 [qE s a,evV e] h λr h'=>r=vU (jQ s e)/\h'=h:=by
 refine enterQX Tryz.f30 λB=>?_;simp only[go_sem,k.w.one,k.e.one,k.c.one,k.g.one,k.r.one,k.t.one];refine zl (c16 _ s a (k.app _) f) ?_;rintro _ N ⟨rfl,p⟩;subst p;cases W:zX s
 ·have A:jQ s e=((0,0),100):=by simp[jQ,W]
  rw[A];simp only[go_sem,W,qv,Bool.not_false];exact qt
 have kk:∀M,SIn (h++M) s a:=λM=>k.app M;simp only[go_sem,W,qv,Bool.not_true,(kk _).w.one,(kk _).e.one,(kk _).c.one,(kk _).g.one,(kk _).r.one,(kk _).t.one];refine zl (c14 _ s a (k.app _) e) ?_;rintro _ N ⟨rfl,p⟩;subst p;cases R:km s e
 ·have A:jQ s e=((0,0),100):=by simp[jQ,R]
  rw[A];simp only[go_sem,R,qv,Bool.not_false];exact qt
 cases q3:e.kind != 3;rotate_left
 ·have A:jQ s e=((0,0),100):=by
   have:(e.kind==3)=false:=(by simpa using q3);simp[jQ,this]
  rw[A];simp only[go_sem,R,q3,qv,Bool.not_true];exact qt
 have ε:e.kind=3:=by simpa using q3
 have H:=zda R ε;obtain⟨x,hx⟩:=Int.eq_ofNat_of_zero_le H.from_.1;obtain⟨y,hy⟩:=Int.eq_ofNat_of_zero_le H.to_.1;simp only[go_sem,R,q3,qv,Bool.not_true,hx,hy,(kk _).w.one,(kk _).e.one,(kk _).c.one,(kk _).g.one,(kk _).r.one,(kk _).t.one];have hpl:x<s.places.toNat:=by have:=H.from_.2;omega
 have ο:y<s.places.toNat:=by have:=H.to_.2;omega
 refine zl (c59 _ s a (kk _) f W x y hpl ο) ?_;rintro _ N ⟨rfl,p⟩;subst p;have G:ZQ s e=qm (xH s) x y:=by unfold ZQ;rw[hx,hy];rfl
 obtain⟨n,hf⟩:∃n,n=qm (xH s) x y:=⟨_,rfl⟩;rw[<-hf] at G⊢;have hff:Fit n:=by rw[hf];exact zea (Xl W) x y
 cases q4:n== -1;rotate_left
 ·have g4:n= -1:=by simpa using q4
  have A:jQ s e=((0,0),100):=by
   unfold jQ;rw[W,R,G,g4];simp[ε]
  rw[A];simp only[go_sem,q4];exact qt
 have g4:¬ n= -1:=by simpa using q4
 have A:jQ s e=if(wx s e n).2=0 then((wx s e n).1,0) else((0,0),(wx s e n).2):=by
  unfold jQ;rw[W,R,G,if_neg g4];simp[ε]
 obtain⟨ie,l⟩:=Int.eq_ofNat_of_zero_le H.element.1;obtain⟨ig,m⟩:=Int.eq_ofNat_of_zero_le H.gear.1;obtain⟨ic,d⟩:=Int.eq_ofNat_of_zero_le H.class_.1;have le:ie<s.elements.length:=by have:=H.element.2;omega
 have lg:ig<s.gears.length:=by have:=H.gear.2;omega
 have lc:ic<s.classes.length:=by have:=H.class_.2;omega
 have leI:(ie:Int)<(s.elements.length:Int):=zb;have o:(ig:Int)<(s.gears.length:Int):=zb;have q:(ic:Int)<(s.classes.length:Int):=zb;have eE:∀M,eOf (h++M) a.e=some 4:=λM=>(kk M).e.at (i:=ie) (by simpa using le);have D:∀M,eOf (h++M) a.g=some 2:=λM=>(kk M).g.at (i:=ig) (by simpa using lg);have I:∀M,eOf (h++M) a.c=some 2:=λM=>(kk M).c.at (i:=ic) (by simpa using lc);have rE:∀M,zI (h++M) a.e=some (s.elements.map wO):=λM=>(kk M).e.rows;have C:∀M,zI (h++M) a.g=some (s.gears.map qy):=λM=>(kk M).g.rows;have K:∀M,zI (h++M) a.c=some (s.classes.map qy):=λM=>(kk M).c.rows;obtain⟨F,γ⟩:∃F,F=vb s.elements e.element:=⟨_,rfl⟩;obtain⟨ge,U⟩:∃ge,ge=kh s.gears e.gear:=⟨_,rfl⟩;obtain⟨Y,Z⟩:∃Y,Y=kh s.classes e.class_:=⟨_,rfl⟩
 have gE:(s.elements.map wO)[ie]? =some [i64 F.1.1,i64 F.1.2,i64 F.2.1,i64 F.2.2]:=by
  rw[γ,l,zw,zg le];simp[vb,zn,le,wO]
 have E:(s.gears.map qy)[ig]? =some [i64 ge.1,i64 ge.2]:=by
  rw[U,m,zw,zg lg];simp[kh,zn,lg,qy]
 have J:(s.classes.map qy)[ic]? =some [i64 Y.1,i64 Y.2]:=by
  rw[Z,d,zw,zg lc];simp[kh,zn,lc,qy]
 simp only[go_sem,q4,l,m,d,eE,rE,gE,leI,zc,Int.toNat_natCast,zd];refine zZ [.res] 1 (oF [0,1,2,3,5,8,10,6,9,11,12,13] ((4,0,[6,9,11,12,13])::(7,0,[9,11,12,13])::oF [14,15,16] ([]))) ?_;simp only[go_sem,l,m,d,D,C,E,o,zc,Int.toNat_natCast,zd];refine zl (c62 n _) ?_;rintro _ N ⟨rfl,p⟩;subst p;simp only[go_sem,l,m,d,D,C,E,o,zc,Int.toNat_natCast,zd]
 have z:∀(h:List Ob) (j:Nat) (w:Int) (g:FuncId) (a b:zL) (v:zL->zL->zL × Int),h[j]? =some (.box 34 [i64 w])->(∀h,ACalls Tryz.prog g [rat a,rat b] h λr h'=>r=vU (v a b)/\h'=h)->
   ACalls Tryz.prog 66 [.fn (.func g) [] [],rat a,rat b,.ptr j 0] h λr h'=>r=rat (kp v a b w).1/\h'=h.set j (.box 34 [i64 (kp v a b w).2]):=λh j w g a b v hj hc=>c60 h j w g a b (v a b) hj λL=>hc _
 have u:∀(a b:zL),qp a->qp b->∀h,ACalls Tryz.prog 69 [rat a,rat b] h λr h'=>r=vU (jG a b)/\h'=h:=λa b ha hb h=>c24 a b ha hb h;have P:∀(a b:zL),qp a->qp b->∀h,ACalls Tryz.prog 67 [rat a,rat b] h λr h'=>r=vU (K3 a b)/\h'=h:=λa b ha hb h=>c61 a b ha hb h;have fm:∀a b w,qp (kp jG a b w).1:=λa b w=>Xk (λ_ _=>vV _ _ _) a b w;have fa:∀a b w,qp (kp K3 a b w).1:=λa b w=>Xk (λ_ _=>Qi _) a b w;have ξ:qp (n,1):=⟨hff,by simp[Fit]⟩
 have fge:qp ge:=by
  rw[U,m];simp only[kh,Int.toNat_natCast,zn,zg lg,Option.getD_some];exact f.gears _ (zx lg)
 have fcl:qp Y:=by
  rw[Z,d];simp only[kh,Int.toNat_natCast,zn,zg lc,Option.getD_some];exact f.classes _ (zx lc)
 have σ:qp F.1/\qp F.2:=by
  rw[γ,l];simp only[vb,Int.toNat_natCast,zn,zg le,Option.getD_some];exact f.elements _ (zx le)
 have κ:qp (e.units,1):=⟨by have:=H.units;unfold Fit;omega,by simp[Fit]⟩;have look:∀(L:List Ob) (k:Nat),(h++L)[h.length+k]? =L[k]? :=λL k=>qa rfl;refine zl (z _ (h.length+3) 0 69 (n,1) s.pace jG (by rw[look];rfl) (u _ _ ξ f.pace)) ?_;rintro _ N ⟨rfl,p⟩;subst p;obtain⟨x1,T⟩:∃x1,x1=kp jG (n,1) s.pace 0:=⟨_,rfl⟩;rw[<-T];have fx1:qp x1.1:=by rw[T];exact fm _ _ _
 simp only[go_sem,l,m,d,D,C,E,o,I,K,J,q,zc,Int.toNat_natCast,zd];refine zl (z _ (h.length+3) x1.2 69 x1.1 ge jG (by rw[look];rfl) (u _ _ fx1 fge)) ?_;rintro _ N ⟨rfl,p⟩;subst p;obtain⟨x2,Q⟩:∃x2,x2=kp jG x1.1 ge x1.2:=⟨_,rfl⟩;rw[<-Q];simp only[go_sem,l,m,d,D,C,E,o,I,K,J,q,zc,Int.toNat_natCast,zd];have fx2:qp x2.1:=by rw[Q];exact fm _ _ _
 refine zZ [.res] 1 (oF [0,1,2,4,5,7,8,3,6,9] ((10,0,[3,6])::(11,0,[3])::oF [12,13,14] ([]))) ?_;simp only[go_sem,l,m,d,D,C,E,o,I,K,J,q,zc,Int.toNat_natCast,zd];refine zl (c62 e.units _) ?_;rintro _ N ⟨rfl,p⟩;subst p;simp only[go_sem,l,m,d,D,C,E,o,I,K,J,q,zc,Int.toNat_natCast,zd];refine zl (z _ (h.length+3) x2.2 69 F.2 (e.units,1) jG (by rw[look];rfl) (u _ _ σ.2 κ)) ?_;rintro _ N ⟨rfl,p⟩;subst p;obtain⟨V,θ⟩:∃V,V=kp jG F.2 (e.units,1) x2.2:=⟨_,rfl⟩;rw[<-θ];simp only[go_sem,l,m,d,D,C,E,o,I,K,J,q,zc,Int.toNat_natCast,zd];have fx3:qp V.1:=by rw[θ];exact fm _ _ _
 refine zl (z _ (h.length+3) V.2 67 F.1 V.1 K3 (by rw[look];rfl) (P _ _ σ.1 fx3)) ?_;rintro _ N ⟨rfl,p⟩;subst p;obtain⟨x4,S⟩:∃x4,x4=kp K3 F.1 V.1 V.2:=⟨_,rfl⟩;rw[<-S];simp only[go_sem,l,m,d,D,C,E,o,I,K,J,q,zc,Int.toNat_natCast,zd];have fx4:qp x4.1:=by rw[S];exact fa _ _ _
 refine zZ [] 0 (oF [0,2,4,1,3,5,6,7,8,9] ([])) ?_;simp only[go_sem,l,m,d,D,C,E,o,I,K,J,q,zc,Int.toNat_natCast,zd];refine zl (z _ (h.length+3) x4.2 69 x4.1 Y jG (by rw[look];rfl) (u _ _ fx4 fcl)) ?_;rintro _ N ⟨rfl,p⟩;subst p;obtain⟨x5,ι⟩:∃x5,x5=kp jG x4.1 Y x4.2:=⟨_,rfl⟩;rw[<-ι];simp only[go_sem,l,m,d,D,C,E,o,I,K,J,q,zc,Int.toNat_natCast,zd];have fx5:qp x5.1:=by rw[ι];exact fm _ _ _
 refine zl (c18 (wr (100+s.allow)) 100 (kz _) (by simp[Fit]) _) ?_;rintro _ N ⟨rfl,p⟩;subst p;refine zz ?_;refine zZ [.res] 1 (oF [0,1,2,3,4,6] ((5,0,[6])::oF [7,8,9] ([]))) ?_;simp only[go_sem,l,m,d,D,C,E,o,I,K,J,q,zc,Int.toNat_natCast,zd];refine zl (z _ (h.length+3) x5.2 67 x2.1 x5.1 K3 (by rw[look];rfl) (P _ _ fx2 fx5)) ?_;rintro _ N ⟨rfl,p⟩;subst p;obtain⟨x6,X⟩:∃x6,x6=kp K3 x2.1 x5.1 x5.2:=⟨_,rfl⟩;rw[<-X];simp only[go_sem,l,m,d,D,C,E,o,I,K,J,q,zc,Int.toNat_natCast,zd];have fx6:qp x6.1:=by rw[X];exact fa _ _ _
 refine qx (z _ (h.length+3) x6.2 69 x6.1 (make (wr (100+s.allow)) 100).1 jG (by rw[look];rfl) (u _ _ fx6 (vD _ _))) ?_;obtain⟨x7,ν⟩:∃x7,x7=kp jG x6.1 (make (wr (100+s.allow)) 100).1 x6.2:=⟨_,rfl⟩;rw[<-ν];simp only[go_sem,l,m,d,D,C,E,o,I,K,J,q,zc,Int.toNat_natCast,zd]
 have O:wx s e n=x7:=by
  unfold wx;rw[<-γ, <-U, <-Z];simp only;rw[<-T, <-Q, <-θ, <-S, <-ι, <-X, <-ν]
 rw[O] at A;refine ways (λe7=>?_) (λe7=>?_)
 ·have g7:¬ x7.2=0:=by simpa using e7
  rw[if_neg g7] at A;rw[A];refine zz ?_;refine jCa [] 0 (oF [0,1] ((2,0,[1])::(3,0,[])::[])) ?_;exact qt
 ·have g7:x7.2=0:=by simpa using e7
  rw[if_pos g7] at A;rw[A];refine zz ?_;exact qt
