/-
  Joined.
-/
import Derived.Test.YtigdlmpjijhpaaaGreatK25
import Derived.Test.YtigdlmpjijhpaaaGreatK23
set_option linter.unusedSimpArgs false
set_option linter.unusedVariables false
namespace Go.Proofs.YtigdlmpjijhpaaaGreat.Ax
open Go Go.Proofs
set_option maxRecDepth 100000
attribute [go_sem] yFa v3a xSa jla
abbrev ZB (p:Nat × Nat):List AV:=[.tl p.1 p.2]
theorem JB {D:Mat} {a:Nat} (b:a<D.length) (r:List Int):(D.set a r).getD a []=r:=by
 rw[List.getD_eq_getElem?_getD,List.getElem?_set_self b]
 rfl
structure TabAt (h:List Ob) (o out st:Nat) (ids:List (Nat × Nat)) (D:Mat) (n:Nat):Prop where
 box:h[o]? =some (.box 322 [.tl out st])
 row:h[out]? =some (.row 27 1 (ids.map ZB) st)
 len:ids.length=n
 sq:Sq n D
 at_:∀(a:Nat) (p:Nat × Nat),ids[a]? =some p->h[p.1]? =some (.row 3 1 ((D.getD a []).map zJ) p.2)
 nd:(ids.map (·.1)).Nodup
theorem TabAt.app {h:List Ob} {o out st:Nat} {ids:List (Nat × Nat)} {D:Mat} {n:Nat} (k:TabAt h o out st ids D n) (M:List Ob):TabAt (h++M) o out st ids D n:=
 ⟨zb k.box,zb k.row,k.len,k.sq,λa p q=>zb (k.at_ a p q),k.nd⟩
theorem TabAt.set {h:List Ob} {o out st:Nat} {ids:List (Nat × Nat)} {D:Mat} {n:Nat} (k:TabAt h o out st ids D n) {a:Nat} {p:Nat × Nat} (f:ids[a]? =some p) (r:List Int) (m:r.length=n) (j:a<n):TabAt (h.set p.1 (.row 3 1 (r.map zJ) p.2)) o out st ids (D.set a r) n:=by
 have c:=k.at_ a p f
 have u:p.1≠o:=λq=>by rw[q,k.box] at c;cases c
 have t:p.1≠out:=λq=>by rw[q,k.row] at c;injection c with c;injection c with h1;cases h1
 refine ⟨by rw[List.getElem?_set_ne u];exact k.box,by rw[List.getElem?_set_ne t];exact k.row,k.len,⟨by rw[List.length_set];exact k.sq.1,λx l=>?_⟩,λb q d=>?_,k.nd⟩
 ·rcases List.mem_or_eq_of_mem_set l with l | rfl
  ·exact k.sq.2 x l
  ·exact m
 ·by_cases g:b=a
  ·subst g
   rw[f] at d;injection d with d;subst d
   rw[zh c,List.getD_eq_getElem?_getD,List.getElem?_set_self (by rw[k.sq.1];exact j)]
   rfl
  ·have i:p.1≠q.1:=λe=>by
    have y:a<ids.length:=(List.getElem?_eq_some_iff.1 f).1
    have v:b<ids.length:=(List.getElem?_eq_some_iff.1 d).1
    have s:(ids.map (·.1))[a]? =some p.1:=by rw[List.getElem?_map,f];rfl
    have w:(ids.map (·.1))[b]? =some q.1:=by rw[List.getElem?_map,d];rfl
    have:=(List.getElem?_inj (by simpa using y) k.nd).1 (s.trans (by rw[w,e]))
    exact g this.symm
   rw[List.getElem?_set_ne i,k.at_ b q d,List.getD_eq_getElem?_getD,List.getD_eq_getElem?_getD,List.getElem?_set_ne (Ne.symm g)]
theorem vta {n:Nat} {D:Mat} (h:Sq n D) {a b:Nat} {v:Int} (c:a<n):xw D a b v=D.set a ((xw D a b v).getD a []):=by
 obtain ⟨r,f,e,g⟩:=Q2 h c
 unfold xw
 split
 ·unfold yY
  rw[JB (by rw[h.1];exact c)]
 ·rw[e]
  apply List.ext_getElem?
  intro i
  by_cases d:i=a
  ·subst d;rw[f,List.getElem?_set_self (by rw[h.1];exact c)]
  ·rw[List.getElem?_set_ne (Ne.symm d)]
theorem vua {n:Nat} {D:Mat} (h:Sq n D) {a b:Nat} {v:Int} (e:a<n):((xw D a b v).getD a []).length=n:=by
 obtain ⟨r,f,d,c⟩:=Q2 (J0 h a b v) e
 rw[d];exact c
theorem ZPa (h:List Ob) (o out st:Nat) (ids:List (Nat × Nat)) (D:Mat) (n a b:Nat) (v:Int) (p:Nat × Nat) (k:TabAt h o out st ids D n) (C:a<n) (H:b<n) (A:ids[a]? =some p):
  ACalls Tryz.prog 290 [i64 a,i64 b,i64 v,.ptr o 0] h λr h'=>r= .tup []/\h'=h.set p.1 (.row 3 1 (((xw D a b v).getD a []).map zJ) p.2):=by
 obtain ⟨r,G,z,E⟩:=Q2 k.sq C
 have d:=k.at_ a p A
 have g:(ids.map ZB)[a]? =some [.tl p.1 p.2]:=by rw[List.getElem?_map,A];rfl
 have c:((D.getD a []).map zJ)[b]? =some [i64 (js D a b)]:=by
  unfold js
  rw[z,List.getElem?_map,List.getElem?_eq_getElem (by omega),List.getD_eq_getElem?_getD,List.getElem?_eq_getElem (by omega)]
  rfl
 have w:(a:Int)<(ids.length:Int):=by rw[k.len];omega
 have l2:(b:Int)<((D.getD a []).length:Int):=by rw[z,E];omega
 have f:((D.getD a []).map zJ).set b [i64 v]=((yY D a b v).getD a []).map zJ:=by
  unfold yY
  rw[JB (by rw[k.sq.1];exact C),List.map_set]
  rfl
 obtain ⟨m,l⟩:∃m,m=js D a b:=⟨_,rfl⟩
 obtain ⟨i,j⟩:∃i,i=(D.getD a []).map zJ:=⟨_,rfl⟩
 have F:(D.getD a []).length=i.length:=by rw[j,List.length_map]
 rw[<-j] at d c f
 rw[<-l] at c
 rw[F] at l2
 have t:=k.box
 have rx:=k.row
 refine zf Tryz.f290 [] 33 rfl rfl rfl rfl rfl rfl (by decide) (⟨_,_,⟨rfl,rfl⟩,zK d rfl⟩) λB=>?_
 simp only[go_sem,t,rx,g,d,c,w,l2,List.length_map,Int.toNat_natCast,Int.natCast_nonneg]
 cases u:m== -1
 ·have y:¬ js D a b= -1:=by rw[<-l];simpa using u
  simp only[go_sem,u,zL,t,rx,g,d,c,w,l2,List.length_map,Int.toNat_natCast,Int.natCast_nonneg]
  refine ways (λe=>?_) (λe=>?_)
  ·have x:v<js D a b:=by rw[<-l];simpa using e
   have s:xw D a b v=yY D a b v:=by unfold xw;rw[if_pos (.inr x)]
   simp only[go_sem,t,rx,g,d,c,w,l2,List.length_map,Int.toNat_natCast,Int.natCast_nonneg]
   rw[s, <-f]
   exact ⟨.tup [],by simp only[go_sem],.inl ⟨rfl,rfl⟩⟩
  ·have x:¬ v<js D a b:=by rw[<-l];simpa using e
   have s:xw D a b v=D:=by unfold xw;rw[if_neg (λq=>q.elim y x)]
   simp only[go_sem]
   rw[s, <-j,zZ d]
   exact ⟨.tup [],by simp only[go_sem],.inl ⟨rfl,rfl⟩⟩
 ·have y:js D a b= -1:=by rw[<-l];simpa using u
  have s:xw D a b v=yY D a b v:=by unfold xw;rw[if_pos (.inl y)]
  simp only[go_sem,u,zL,t,rx,g,d,c,w,l2,List.length_map,Int.toNat_natCast,Int.natCast_nonneg]
  rw[s, <-f]
  exact ⟨.tup [],by simp only[go_sem],.inl ⟨rfl,rfl⟩⟩
theorem TabAt.near {h:List Ob} {o out st:Nat} {ids:List (Nat × Nat)} {D:Mat} {n:Nat} (k:TabAt h o out st ids D n) {a b:Nat} {v:Int} {p:Nat × Nat} (d:ids[a]? =some p) (c:a<n):TabAt (h.set p.1 (.row 3 1 (((xw D a b v).getD a []).map zJ) p.2)) o out st ids (xw D a b v) n:=by
 have:=k.set d ((xw D a b v).getD a []) (vua k.sq c) c
 rwa[<-vta k.sq c] at this
theorem TabAt.rd {h:List Ob} {o out st:Nat} {ids:List (Nat × Nat)} {D:Mat} {n:Nat} (k:TabAt h o out st ids D n) {a:Nat} {p:Nat × Nat} (e:ids[a]? =some p) (f:a<n):∃X,h[p.1]? =some (.row 3 1 X p.2)/\X.length=n/\∀b,b<n->X[b]? =some [i64 (js D a b)]:=by
 obtain ⟨r,i,c,d⟩:=Q2 k.sq f
 refine ⟨(D.getD a []).map zJ,k.at_ a p e,by rw[List.length_map,c,d],λb g=>?_⟩
 unfold js
 rw[c,List.getElem?_map,List.getElem?_eq_getElem (by omega),List.getD_eq_getElem?_getD,List.getElem?_eq_getElem (by omega)]
 rfl
theorem TabAt.ix {h:List Ob} {o out st:Nat} {ids:List (Nat × Nat)} {D:Mat} {n:Nat} (k:TabAt h o out st ids D n) {a:Nat} (d:a<n):∃p,ids[a]? =some p/\(ids.map ZB)[a]? =some [.tl p.1 p.2]/\p.1<h.length:=by
 have c:a<ids.length:=by rw[k.len];exact d
 have b:ids[a]? =some ids[a]:=List.getElem?_eq_getElem c
 exact ⟨ids[a],b,by rw[List.getElem?_map,b];rfl,(List.getElem?_eq_some_iff.1 (k.at_ a _ b)).1⟩
structure TabIn (h0 h:List Ob) (out n i:Nat) (ids:List (Nat × Nat)):Prop where
 pre:Pre h0 h
 row:h[out]? =some (.row 27 1 (ids.map ZB++List.replicate (n - i) [.v (.slice none 0 0)]) 0)
 box:h[out+1]? =some (.box 322 [.tl out 0])
 len:ids.length=i
 at_:∀(a:Nat) (p:Nat × Nat),ids[a]? =some p->out+2<=p.1/\h[p.1]? =some (.row 3 1 ((xda n a).map zJ) p.2)
 nd:(ids.map (·.1)).Nodup
theorem vva {n a:Nat} (b:a<n):(yZ n).getD a []=xda n a:=by
 unfold yZ
 rw[List.getD_eq_getElem?_getD,List.getElem?_map,List.getElem?_range b]
 rfl
theorem TabIn.full {h0 h:List Ob} {out n:Nat} {ids:List (Nat × Nat)} (k:TabIn h0 h out n n ids):TabAt h (out+1) out 0 ids (yZ n) n:=by
 refine ⟨k.box,by have:=k.row;rw[Nat.sub_self] at this;simpa using this,k.len,qQa n,λa p q=>?_,k.nd⟩
 have b:a<n:=by rw[<-k.len];exact (List.getElem?_eq_some_iff.1 q).1
 rw[vva b]
 exact (k.at_ a p q).2
theorem w4a {s:Setup} (b:zE s=true):(1<=s.places/\s.places<=16)/\∀w∈s.ways,(0<=w.1/\w.1<s.places)/\(0<=w.2.1/\w.2.1<s.places):=by
 simp only[zE,vL,Bool.and_eq_true] at b
 have d:=yS b.1.1.1.1.1
 refine ⟨d,λw e=>?_⟩
 have c:=b.1.1.1.2
 simp only[Bool.not_eq_true',List.any_eq_false] at c
 have:=c w e
 have a:wr (s.places - 1)=s.places - 1:=zF (by unfold Fit;omega)
 simp[yN,wG,KA,a] at this
 omega
theorem qaa (h:List Ob) {D:Mat} {n:Nat} (k:Sq n D):∃(L:List Ob) (out st:Nat) (ids:List (Nat × Nat)) (o:Nat),NoRes L/\TabAt (h++L) o out st ids D n:=by
 obtain ⟨M,e⟩:∃M,M=D.map λr=>Ob.row 3 1 (r.map zJ) 0:=⟨_,rfl⟩
 obtain ⟨ids,c⟩:∃ids,ids=(List.range n).map λa=>(h.length+(2+a),0):=⟨_,rfl⟩
 refine ⟨.row 27 1 (ids.map ZB) 0:: .box 322 [.tl h.length 0]::M,h.length,0,ids,h.length+1,?_,zl (k:=1) rfl,zm rfl,by rw[c];simp,k,λa p d=>?_,?_⟩
 ·refine zg rfl (zg rfl λo g=>?_)
  rw[e] at g
  obtain ⟨r,_,rfl⟩:=List.mem_map.1 g
  rfl
 ·have f:a<n:=by
   have:=(List.getElem?_eq_some_iff.1 d).1
   rw[c] at this;simpa using this
  rw[c,List.getElem?_map,List.getElem?_range f] at d
  injection d with d
  subst d
  obtain ⟨r,i,j,l⟩:=Q2 k f
  simp only
  rw[zl rfl,show 2+a=a+1+1 by omega,List.getElem?_cons_succ,List.getElem?_cons_succ,e,List.getElem?_map,i,j]
  rfl
 ·rw[c,List.map_map]
  unfold List.Nodup
  rw[List.pairwise_map]
  refine List.Pairwise.imp (λ{a b} h=>?_) (List.nodup_range (n:=n))
  simpa using h
theorem QE {α:Type} {n:Nat} {f:Mat->α->Mat} (a:∀D x,Sq n D->Sq n (f D x)):∀(l:List α) (D:Mat),Sq n D->Sq n (l.foldl f D)
 | [],_,h=>h
 | x::l,D,h=>QE a l (f D x) (a D x h)
theorem w5a {n b y a:Nat} {D:Mat} (h:Sq n D):Sq n (X5 b y a D):=by
 unfold X5
 split
 ·exact J0 h _ _ _
 ·exact h
theorem w6a {n y a:Nat} {D:Mat} (h:Sq n D):Sq n (X6 n y D a):=by
 unfold X6
 split
 ·exact h
 ·exact QE (λD x h=>w5a h) _ _ h
theorem w7a {n y:Nat} {D:Mat} (h:Sq n D):Sq n (Ym n D y):=QE (λD x h=>w6a h) _ _ h
theorem vwa (s:Setup):Sq s.places.toNat (vS s):=
 QE (λD x h=>w7a h) _ _ (QE (λD w h=>J0 (J0 h _ _ _) _ _ _) _ _ (qQa _))
set_option maxHeartbeats 2000000 in
theorem c91 (h:List Ob) (s:Setup) (a:SA) (k:SIn h s a) (f:SFit s) (hs:zE s=true):
  ACalls Tryz.prog 255 [qj s a] h λr h'=>∃(L:List Ob) (out st:Nat) (ids:List (Nat × Nat)) (o:Nat),h'=h++L/\NoRes L/\r= .tl out st/\TabAt h' o out st ids (vS s) s.places.toNat:=by
 have hex:∃r h',(∃(L:List Ob) (out st:Nat) (ids:List (Nat × Nat)) (o:Nat),h'=h++L/\NoRes L/\r=AV.tl out st/\TabAt h' o out st ids (vS s) s.places.toNat)/\ResK h h':=by
  obtain ⟨L,out,st,ids,o,q1,q2⟩:=qaa h (vwa s)
  exact ⟨_,_,⟨L,out,st,ids,o,rfl,q1,rfl,q2⟩,zW⟩
 obtain ⟨⟨p1,p2⟩,τ⟩:=w4a hs
 obtain ⟨n,hn⟩:∃n:Nat,n=s.places.toNat:=⟨_,rfl⟩
 have η:s.places=(n:Int):=by omega
 have hnb:(n:Int)*25<=140737488355328:=by omega
 refine zf Tryz.f255 [.tmp 2] 109 rfl rfl rfl rfl rfl rfl (by decide) (hex) λB=>?_
 simp only[go_sem,k.w.one,k.e.one,k.c.one,k.g.one,k.r.one,k.t.one]
 refine zd (c16 _ s a (k.app _) f) ?_
 rintro _ h1 ⟨rfl,e2⟩
 subst e2
 obtain ⟨h0,N⟩:∃h0,h0=h++[Ob.box 30 (zr s a)]:=⟨_,rfl⟩
 have hl0:h0.length=h.length+1:=by rw[N];simp
 have h30:h0[h.length]? =some (.box 30 (zr s a)):=by rw[N];exact zm rfl
 have k0:SIn h0 s a:=by rw[N];exact k.app _
 have hP:(h++[Ob.box 30 (zr s a)])[h.length]? =some (.box 30 (zr s a)):=zm rfl
 simp only[go_sem,hs,Bool.not_true,η,hnb,Int.toNat_natCast,Int.natCast_nonneg]
 refine zk (by decide) (λm T h'=>∃(i:Nat) (ids:List (Nat × Nat)),i<=n/\TabIn h0 h' (h.length+1) n i ids/\T 1= .ptr h.length 0/\T 3= .ptr (h.length+2) 0/\T 19=i64 n/\T 20=i64 i/\m=n - i) n
  ⟨0,[],by omega,⟨⟨_,by rw[N,List.append_assoc];rfl,zg rfl (zj rfl)⟩,by rw[zl (k:=1) rfl];rfl,by rw[zl (k:=2) rfl];rfl,rfl,λ_ _ q=>by simp at q,.nil⟩,by simp only[go_sem],by simp only[go_sem],by simp only[go_sem],by (simp only[go_sem]<;>rfl),rfl⟩ ?_
 rintro m T h' ⟨i,ids,hi,A,t1,t3,δ,β,rfl⟩
 simp only[go_sem,δ,β]
 refine ways (λe=>?_) (λe=>?_)
 ·have J:i<n:=dlt e
  have E:∀M,(h'++M)[h.length]? =some (.box 30 (zr s a)):=λM=>by
   obtain ⟨L,rfl,_⟩:=A.pre
   rw[List.append_assoc];exact zb h30
  have hbx:∀M,(h'++M)[h.length+2]? =some (.box 322 [.tl (h.length+1) 0]):=λM=>zb A.box
  have hrw:∀M,(h'++M)[h.length+1]? =some (.row 27 1 (ids.map ZB++List.replicate (n - i) [.v (.slice none 0 0)]) 0):=λM=>zb A.row
  have χ:(ids.map ZB++List.replicate (n - i) [AV.v (.slice none 0 0)]).length=n:=by simp[A.len];omega
  have hil:(i:Int)<(n:Int):=by omega
  simp only[go_sem]
  refine zp rfl [.res] 1 [(1,0,[]),(3,0,[]),(0,0,[]),(4,0,[]),(2,0,[]),(5,0,[0]),(6,0,[]),(7,0,[])] rfl (by decide) (by decide) ?_
  simp only[go_sem,t1,t3,δ,β,hbx,hrw,E,η]
  refine zd (Xja (h'++[Ob.row 3 1 [[i64 (-1)]] 0]) (.tl h'.length 0) (-1) n (yo (by rw[zm rfl];rfl)) (by omega) (by omega)) ?_
  rintro _ h4 ⟨L,id,st,rfl,n1,hid,rfl,μ⟩
  have hlen':h.length+2<h'.length:=(List.getElem?_eq_some_iff.1 A.box).1
  simp only[List.length_append,List.length_cons,List.length_nil] at hid
  obtain ⟨h5,O⟩:∃h5,h5=h'++[Ob.row 3 1 [[i64 (-1)]] 0]++L:=⟨_,rfl⟩
  have hp5:Pre h0 h5:=by rw[O];exact (A.pre.app (zj rfl)).app n1
  have b5:h5[h.length+2]? =some (.box 322 [.tl (h.length+1) 0]):=by rw[O,List.append_assoc];exact hbx _
  have r5:h5[h.length+1]? =some (.row 27 1 (ids.map ZB++List.replicate (n - i) [.v (.slice none 0 0)]) 0):=by rw[O,List.append_assoc];exact hrw _
  have at5:∀(a:Nat) (p:Nat × Nat),ids[a]? =some p->h5[p.1]? =some (.row 3 1 ((xda n a).map zJ) p.2):=λa p q=>by
   rw[O,List.append_assoc];exact zb (A.at_ a p q).2
  rw[<-O] at μ
  obtain ⟨R,hR⟩:∃R,R=ids.map ZB++List.replicate (n - i) [AV.v (.slice none 0 0)]:=⟨_,rfl⟩
  rw[<-hR] at r5 χ
  have hset:R.set i [.tl id st]=(ids++[(id,st)]).map ZB++List.replicate (n - (i+1)) [AV.v (.slice none 0 0)]:=by
   rw[hR,List.set_append_right _ _ (by simp[A.len])]
   simp only[List.length_map,A.len,Nat.sub_self,List.map_append,List.map_cons,List.map_nil]
   rw[show n - i=(n - (i+1))+1 by omega,List.replicate_succ]
   simp
  have rI:R[i]? =some [AV.v (.slice none 0 0)]:=by
   rw[hR,List.getElem?_append_right (by simp[A.len]),List.length_map,A.len,Nat.sub_self,List.getElem?_replicate,if_pos (by omega)]
  have s1:∀o,(h5.set (h.length+1) o)[h.length+1]? =some o:=λo=>zh r5
  have s2:∀o,(h5.set (h.length+1) o)[h.length+2]? =some (.box 322 [.tl (h.length+1) 0]):=λo=>by rw[List.getElem?_set_ne (by omega)];exact b5
  have s3:∀o,(h5.set (h.length+1) o)[id]? =some (.row 3 1 (List.replicate n [i64 (-1)]) st):=λo=>by rw[List.getElem?_set_ne (by omega)];exact μ
  have s4:(R.set i [.tl id st])[i]? =some [.tl id st]:=List.getElem?_set_self (by omega)
  have s5:(R.set i [.tl id st]).length=n:=by rw[List.length_set];exact χ
  have s7:(List.replicate n [i64 (-1)])[i]? =some [i64 (-1)]:=by rw[List.getElem?_replicate,if_pos J]
  have s6:(List.replicate n [i64 (-1)]).length=n:=List.length_replicate
  rw[<-O]
  simp only[go_sem,t3,β,b5,r5,χ,hil,rI,s1,s2,s3,s4,s5,s6,s7,Int.toNat_natCast,Int.natCast_nonneg]
  have κ:∀(a:Nat) (p:Nat × Nat),ids[a]? =some p->p.1<h'.length:=λa p q=>(List.getElem?_eq_some_iff.1 (A.at_ a p q).2).1
  have hF:TabIn h0 ((h5.set (h.length+1) (.row 27 1 (R.set i [.tl id st]) 0)).set id (.row 3 1 ((List.replicate n [i64 (-1)]).set i [i64 0]) st)) (h.length+1) n (i+1) (ids++[(id,st)]):=by
   refine ⟨(hp5.set (by omega) rfl).set (by omega) rfl,?_,?_,by simp[A.len],λa p q=>?_,?_⟩
   ·rw[List.getElem?_set_ne (by omega),s1,hset]
   ·rw[List.getElem?_set_ne (by omega)];exact s2 _
   ·by_cases ha:a<i
    ·rw[List.getElem?_append_left (by rw[A.len];exact ha)] at q
     have h1:=A.at_ a p q
     have h2:=κ a p q
     exact ⟨h1.1,by rw[List.getElem?_set_ne (by omega),List.getElem?_set_ne (by omega)];exact at5 a p q⟩
    ·have hai:a=i:=by
      have:=(List.getElem?_eq_some_iff.1 q).1
      simp[A.len] at this
      omega
     subst hai
     rw[List.getElem?_append_right (by rw[A.len];exact Nat.le_refl _),A.len,Nat.sub_self] at q
     injection q with q
     subst q
     refine ⟨by simp only;omega,?_⟩
     rw[zh (s3 _)]
     simp[xda,zJ,List.map_set]
   ·rw[List.map_append,List.nodup_append]
    refine ⟨A.nd,by simp,λx hx y hy=>?_⟩
    obtain ⟨p,hp,rfl⟩:=List.mem_map.1 hx
    obtain ⟨a,ha⟩:=List.mem_iff_getElem?.1 hp
    have:=κ a p ha
    simp at hy
    omega
  exact ⟨n - (i+1),by omega,i+1,ids++[(id,st)],by omega,hF,t1,δ,zw (by omega) rfl,rfl⟩
 ·have hge:n<=i:=jk e
  have V:i=n:=by omega
  subst V
  have d:=A.full
  have l:=A.pre
  have U:∀(a:Nat) (p:Nat × Nat),ids[a]? =some p->h0.length<=p.1:=λa p q=>by have:=(A.at_ a p q).1;omega
  clear A hi
  have E:∀ {h':List Ob},Pre h0 h'->h'[h.length]? =some (.box 30 (zr s a)):=λ{h'} q=>by
   obtain ⟨L,rfl,_⟩:=q
   exact zb h30
  have G:=E l
  have hwr:∀ {h':List Ob},Pre h0 h'->SlOf h' a.w 3 (s.ways.map QM):=λ{h'} q=>(q.sin k0).w
  have I:=hwr l
  have q0:=l.sin k0
  simp only[go_sem,t1,t3,G,I.rows,I.one,q0.e.one,q0.c.one,q0.g.one,q0.r.one,q0.t.one,List.length_map]
  refine zk (by decide) (λm T h'=>∃(j:Nat),j<=s.ways.length/\Pre h0 h'/\TabAt h' (h.length+2) (h.length+1) 0 ids ((s.ways.take j).foldl zXa (yZ i)) i/\T 1= .ptr h.length 0/\T 3= .ptr (h.length+2) 0/\T 5= .fn (.func 290) [] [.ptr (h.length+2) 0]/\T 39=a.w/\T 40=i64 s.ways.length/\T 41=i64 j/\m=s.ways.length - j) s.ways.length
   ⟨0,by omega,l,d,by simp only[go_sem,t1],by simp only[go_sem,t3],by simp only[go_sem],by simp only[go_sem],by simp only[go_sem],by (simp only[go_sem]<;>rfl),rfl⟩ ?_
  clear t1 t3 δ β d l G I q0
  rintro m T h' ⟨j,hj,l,d,t1,t3,t5,t39,υ,ζ,rfl⟩
  have I:=hwr l
  simp only[go_sem,υ,ζ]
  refine ways (λe=>?_) (λe=>?_)
  ·have J:=dlt e
   have hee:=I.at (i:=j) (by simpa using J)
   have S:(s.ways.map QM)[j]? =some (QM s.ways[j]):=by rw[List.getElem?_map,List.getElem?_eq_getElem J];rfl
   have hkl:(j:Int)<s.ways.length:=by omega
   have V:=τ s.ways[j] (List.getElem_mem J)
   have H:(s.ways.take (j+1)).foldl zXa (yZ i)=zXa ((s.ways.take j).foldl zXa (yZ i)) s.ways[j]:=by
    rw[<-List.take_append_getElem J,List.foldl_append];rfl
   obtain ⟨w,hw⟩:∃w,w=s.ways[j]:=⟨_,rfl⟩
   rw[<-hw] at S V H
   obtain ⟨w1,w2,W⟩:=w
   simp only at V
   obtain ⟨⟨i1,i2⟩,i3,i4⟩:=V
   obtain ⟨Q,rfl⟩:=Int.eq_ofNat_of_zero_le i1
   obtain ⟨Z,rfl⟩:=Int.eq_ofNat_of_zero_le i3
   obtain ⟨D,hD⟩:∃D,D=(s.ways.take j).foldl zXa (yZ i):=⟨_,rfl⟩
   rw[<-hD] at d H
   have ha:Q<i:=by omega
   have hb:Z<i:=by omega
   obtain ⟨pa,a1,a2,a3⟩:=d.ix ha
   obtain ⟨pb,b1,b2,b3⟩:=d.ix hb
   have hA:List.length (QM ((Q:Int),(Z:Int),W))=3:=rfl
   have hw3:QM ((Q:Int),(Z:Int),W)=[i64 Q,i64 Z,i64 W]:=rfl
   rw[hw3] at S
   simp only[go_sem,t39,ζ,t5,hee,I.rows,S,hkl,List.length_map,Int.toNat_natCast,Int.natCast_nonneg]
   refine zd (ZPa (h'++[Ob.box 225 [i64 Q,i64 Z,i64 W]]) (h.length+2) (h.length+1) 0 ids D i Q Z W pa (d.app _) ha hb a1) ?_
   rintro _ h4 ⟨rfl,rfl⟩
   have ι:=(d.app [Ob.box 225 [i64 Q,i64 Z,i64 W]]).near (b:=Z) (v:=W) a1 ha
   have g1:∀o,((h'++[Ob.box 225 [i64 Q,i64 Z,i64 W]]).set pa.1 o)[h'.length]? =some (.box 225 [i64 Q,i64 Z,i64 W]):=λo=>by
    rw[List.getElem?_set_ne (by omega),zm rfl];rfl
   simp only[go_sem,t5,g1]
   refine zd (ZPa _ (h.length+2) (h.length+1) 0 ids _ i Z Q W pb ι hb ha b1) ?_
   rintro _ h4 ⟨rfl,rfl⟩
   have ht3:=ι.near (b:=Q) (v:=W) b1 hb
   simp only[go_sem,ζ]
   exact ⟨s.ways.length - (j+1),by omega,j+1,by omega,((l.app (zj rfl)).set (U _ _ a1) rfl).set (U _ _ b1) rfl,by rw[H];exact ht3,t1,t3,t5,t39,υ,zw (by have:=f.nw;omega) rfl,rfl⟩
  ·have hge2:=jk e
   have hj2:j=s.ways.length:=by omega
   subst hj2
   rw[List.take_length] at d
   obtain ⟨D0,hD0⟩:∃D0,D0=s.ways.foldl zXa (yZ i):=⟨_,rfl⟩
   rw[<-hD0] at d
   have G:=E l
   simp only[go_sem,t1,t3,G,η]
   refine zk (by decide) (λm T h'=>∃(y:Nat),y<=i/\Pre h0 h'/\TabAt h' (h.length+2) (h.length+1) 0 ids ((List.range y).foldl (Ym i) D0) i/\T 1= .ptr h.length 0/\T 3= .ptr (h.length+2) 0/\T 5= .fn (.func 290) [] [.ptr (h.length+2) 0]/\T 63=i64 i/\T 64=i64 y/\m=i - y) i
    ⟨0,by omega,l,d,by simp only[go_sem,t1],by simp only[go_sem,t3],by simp only[go_sem,t5],by simp only[go_sem],by (simp only[go_sem]<;>rfl),rfl⟩ ?_
   clear t1 t3 t5 t39 υ ζ d l G
   rintro m T h' ⟨y,hy,l,d,t1,t3,t5,z,u,rfl⟩
   simp only[go_sem,z,u]
   refine ways (λe=>?_) (λe=>?_)
   ·have P:y<i:=dlt e
    have hfy:(List.range (y+1)).foldl (Ym i) D0=Ym i ((List.range y).foldl (Ym i) D0) y:=by
     rw[List.range_succ,List.foldl_append];rfl
    obtain ⟨D1,hD1⟩:∃D1,D1=(List.range y).foldl (Ym i) D0:=⟨_,rfl⟩
    rw[<-hD1] at d hfy
    have G:=E l
    simp only[go_sem]
    refine XU (by decide) ?_
    simp only[go_sem,t1,G,η]
    refine zk (by decide) (λm T h'=>∃(x:Nat),x<=i/\Pre h0 h'/\TabAt h' (h.length+2) (h.length+1) 0 ids ((List.range x).foldl (X6 i y) D1) i/\T 1= .ptr h.length 0/\T 3= .ptr (h.length+2) 0/\T 5= .fn (.func 290) [] [.ptr (h.length+2) 0]/\T 63=i64 i/\T 64=i64 y/\T 8=i64 y/\T 68=i64 i/\T 69=i64 x/\m=i - x) i
     ⟨0,by omega,l,d,by simp only[go_sem,t1],by simp only[go_sem,t3],by simp only[go_sem,t5],by simp only[go_sem,z],by simp only[go_sem,u],by simp only[go_sem,u],by simp only[go_sem],by (simp only[go_sem]<;>rfl),rfl⟩ ?_
    clear t1 t3 t5 z u d l G
    rintro m T h' ⟨x,hx,l,d,t1,t3,t5,z,u,t8,F,C,rfl⟩
    simp only[go_sem,F,C]
    refine ways (λe=>?_) (λe=>?_)
    ·have K:x<i:=dlt e
     have ο:(List.range (x+1)).foldl (X6 i y) D1=X6 i y ((List.range x).foldl (X6 i y) D1) x:=by
      rw[List.range_succ,List.foldl_append];rfl
     obtain ⟨D2,hD2⟩:∃D2,D2=(List.range x).foldl (X6 i y) D1:=⟨_,rfl⟩
     rw[<-hD2] at d ο
     obtain ⟨px,x1,x2,x3⟩:=d.ix K
     obtain ⟨py,y1,y2,y3⟩:=d.ix P
     obtain ⟨X,X1,X2,X3⟩:=d.rd x1 K
     obtain ⟨Y,Y1,Y2,Y3⟩:=d.rd y1 P
     have γ:=X3 y P
     have bx:=d.box
     have rx:=d.row
     have lx:(x:Int)<(ids.length:Int):=by rw[d.len];omega
     have ly:(y:Int)<(ids.length:Int):=by rw[d.len];omega
     have lX:(y:Int)<(X.length:Int):=by rw[X2];omega
     simp only[go_sem,t3,t8,C,bx,rx,x2,X1,γ,lx,lX,List.length_map,Int.toNat_natCast,Int.natCast_nonneg]
     cases f1:js D2 x y== -1
     ·have g1:¬ js D2 x y= -1:=by simpa using f1
      simp only[go_sem,f1,t3,t8,bx,rx,y2,Y1,Y2,ly,List.length_map,Int.toNat_natCast,Int.natCast_nonneg]
      refine zk (by decide) (λm T h'=>∃(b:Nat),b<=i/\Pre h0 h'/\TabAt h' (h.length+2) (h.length+1) 0 ids ((List.range b).foldl (λD b=>X5 b y x D) D2) i/\T 1= .ptr h.length 0/\T 3= .ptr (h.length+2) 0/\T 5= .fn (.func 290) [] [.ptr (h.length+2) 0]/\T 63=i64 i/\T 64=i64 y/\T 8=i64 y/\T 9=i64 x/\T 68=i64 i/\T 69=i64 x/\T 83= .tl py.1 py.2/\T 84=i64 i/\T 85=i64 b/\m=i - b) i
       ⟨0,by omega,l,d,by simp only[go_sem,t1],by simp only[go_sem,t3],by simp only[go_sem,t5],by simp only[go_sem,z],by simp only[go_sem,u],by simp only[go_sem,t8],by simp only[go_sem],by simp only[go_sem,F],by simp only[go_sem,C],by simp only[go_sem],by simp only[go_sem],by (simp only[go_sem]<;>rfl),rfl⟩ ?_
      clear t1 t3 t5 z u t8 F C d l bx rx X1 Y1 γ
      rintro m T h' ⟨b,hb,l,d,t1,t3,t5,z,u,t8,t9,F,C,ρ,φ,ε,rfl⟩
      simp only[go_sem,φ,ε]
      refine ways (λe=>?_) (λe=>?_)
      ·have ψ:b<i:=dlt e
       have ξ:(List.range (b+1)).foldl (λD b=>X5 b y x D) D2=X5 b y x ((List.range b).foldl (λD b=>X5 b y x D) D2):=by
        rw[List.range_succ,List.foldl_append];rfl
       obtain ⟨D3,hD3⟩:∃D3,D3=(List.range b).foldl (λD b=>X5 b y x D) D2:=⟨_,rfl⟩
       rw[<-hD3] at d ξ
       obtain ⟨X,X1,X2,X3⟩:=d.rd x1 K
       obtain ⟨Y,Y1,Y2,Y3⟩:=d.rd y1 P
       have γ:=X3 y P
       have hYb:=Y3 b ψ
       have bx:=d.box
       have rx:=d.row
       have lX:(y:Int)<(X.length:Int):=by rw[X2];omega
       have lY:(b:Int)<(Y.length:Int):=by rw[Y2];omega
       simp only[go_sem,ρ,ε,Y1,hYb,lY,List.length_map,Int.toNat_natCast,Int.natCast_nonneg]
       refine ways (λe2=>?_) (λe2=>?_)
       ·have g2:js D3 y b≠ -1:=by simpa using e2
        simp only[go_sem,t3,t5,t8,t9,bx,rx,x2,X1,γ,lx,lX,List.length_map,Int.toNat_natCast,Int.natCast_nonneg]
        refine zd (ZPa _ (h.length+2) (h.length+1) 0 ids _ i x b _ px d K ψ x1) ?_
        rintro _ h4 ⟨rfl,rfl⟩
        have ι:=d.near (b:=b) (v:=wr (js D3 x y+js D3 y b)) x1 K
        simp only[go_sem,ε]
        exact ⟨i - (b+1),by omega,b+1,by omega,l.set (U _ _ x1) rfl,by rw[ξ];unfold X5;rw[if_pos g2];exact ι,t1,t3,t5,z,u,t8,t9,F,C,ρ,φ,zw (by omega) rfl,rfl⟩
       ·have g2:¬ js D3 y b≠ -1:=by simpa using e2
        simp only[go_sem,ε]
        exact ⟨i - (b+1),by omega,b+1,by omega,l,by rw[ξ];unfold X5;rw[if_neg g2];exact d,t1,t3,t5,z,u,t8,t9,F,C,ρ,φ,zw (by omega) rfl,rfl⟩
      ·have ψ:i<=b:=jk e
       have hbe:b=i:=by omega
       subst hbe
       simp only[go_sem,C]
       exact ⟨b - (x+1),by omega,x+1,by omega,l,by rw[ο];unfold X6;rw[if_neg g1];exact d,t1,t3,t5,z,u,t8,F,zw (by omega) rfl,rfl⟩
     ·have g1:js D2 x y= -1:=by simpa using f1
      simp only[go_sem,f1,C]
      exact ⟨i - (x+1),by omega,x+1,by omega,l,by rw[ο];unfold X6;rw[if_pos g1];exact d,t1,t3,t5,z,u,t8,F,zw (by omega) rfl,rfl⟩
    ·have K:i<=x:=jk e
     have hxe:x=i:=by omega
     subst hxe
     simp only[go_sem,u]
     exact ⟨x - (y+1),by omega,y+1,by omega,l,by rw[hfy];exact d,t1,t3,t5,z,zw (by omega) rfl,rfl⟩
   ·have P:i<=y:=jk e
    have hye:y=i:=by omega
    subst hye
    have bx:=d.box
    simp only[go_sem,t3,bx]
    have hlen0:h0=h++[Ob.box 30 (zr s a)]:=N
    have hpr:Pre h h':=by
     have:Pre h h0:=⟨_,N,zj rfl⟩
     exact this.trans l
    obtain ⟨L,rfl,hN⟩:=hpr
    refine ⟨.tl (h.length+1) 0,by simp only[go_sem],.inl ⟨L,h.length+1,0,ids,h.length+2,rfl,hN,rfl,?_⟩⟩
    have:vS s=(List.range y).foldl (Ym y) D0:=by
     unfold vS
     rw[<-hn,hD0]
    rw[this]
    exact d
end Go.Proofs.YtigdlmpjijhpaaaGreat.Ax
