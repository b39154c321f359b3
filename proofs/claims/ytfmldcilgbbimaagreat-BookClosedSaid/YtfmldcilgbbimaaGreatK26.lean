/-
  Joined.
-/
import Derived.Test.YtfmldcilgbbimaaGreatK25
import Derived.Test.YtfmldcilgbbimaaGreatK23
set_option linter.unusedSimpArgs false
set_option linter.unusedVariables false
namespace Go.Proofs.YtfmldcilgbbimaaGreat.Ax
open Go Go.Proofs
set_option maxRecDepth 100000
attribute [go_sem] XNa QNa yra vHa
abbrev Jb (p:Nat × Nat):List AV:=[.tl p.1 p.2]
theorem KH {D:Mat} {a:Nat} (b:a<D.length) (r:List Int):(D.set a r).getD a []=r:=by
 rw[List.getD_eq_getElem?_getD,List.getElem?_set_self b]
 rfl
structure TabAt (h:List Ob) (o out st:Nat) (ids:List (Nat × Nat)) (D:Mat) (n:Nat):Prop where
 box:h[o]? =some (.box 295 [.tl out st])
 row:h[out]? =some (.row 27 1 (ids.map Jb) st)
 len:ids.length=n
 sq:Sq n D
 at_:∀(a:Nat) (p:Nat × Nat),ids[a]? =some p->h[p.1]? =some (.row 3 1 ((D.getD a []).map zz) p.2)
 nd:(ids.map (·.1)).Nodup
theorem TabAt.app {h:List Ob} {o out st:Nat} {ids:List (Nat × Nat)} {D:Mat} {n:Nat} (k:TabAt h o out st ids D n) (M:List Ob):TabAt (h++M) o out st ids D n:=
 ⟨zb k.box,zb k.row,k.len,k.sq,λa p q=>zb (k.at_ a p q),k.nd⟩
theorem TabAt.set {h:List Ob} {o out st:Nat} {ids:List (Nat × Nat)} {D:Mat} {n:Nat} (k:TabAt h o out st ids D n) {a:Nat} {p:Nat × Nat} (f:ids[a]? =some p) (r:List Int) (v:r.length=n) (j:a<n):TabAt (h.set p.1 (.row 3 1 (r.map zz) p.2)) o out st ids (D.set a r) n:=by
 have c:=k.at_ a p f
 have w:p.1≠o:=λq=>by rw[q,k.box] at c;cases c
 have y:p.1≠out:=λq=>by rw[q,k.row] at c;injection c with c;injection c with h1;cases h1
 refine ⟨by rw[List.getElem?_set_ne w];exact k.box,by rw[List.getElem?_set_ne y];exact k.row,k.len,⟨by rw[List.length_set];exact k.sq.1,λx i=>?_⟩,λb q d=>?_,k.nd⟩
 ·rcases List.mem_or_eq_of_mem_set i with i | rfl
  ·exact k.sq.2 x i
  ·exact v
 ·by_cases l:b=a
  ·subst l
   rw[f] at d;injection d with d;subst d
   rw[zh c,List.getD_eq_getElem?_getD,List.getElem?_set_self (by rw[k.sq.1];exact j)]
   rfl
  ·have g:p.1≠q.1:=λe=>by
    have m:a<ids.length:=(List.getElem?_eq_some_iff.1 f).1
    have u:b<ids.length:=(List.getElem?_eq_some_iff.1 d).1
    have s:(ids.map (·.1))[a]? =some p.1:=by rw[List.getElem?_map,f];rfl
    have t:(ids.map (·.1))[b]? =some q.1:=by rw[List.getElem?_map,d];rfl
    have:=(List.getElem?_inj (by simpa using m) k.nd).1 (s.trans (by rw[t,e]))
    exact l this.symm
   rw[List.getElem?_set_ne g,k.at_ b q d,List.getD_eq_getElem?_getD,List.getD_eq_getElem?_getD,List.getElem?_set_ne (Ne.symm l)]
theorem ZYa {n:Nat} {D:Mat} (h:Sq n D) {a b:Nat} {v:Int} (c:a<n):kx D a b v=D.set a ((kx D a b v).getD a []):=by
 obtain ⟨r,f,e,g⟩:=XX h c
 unfold kx
 split
 ·unfold Qm
  rw[KH (by rw[h.1];exact c)]
 ·rw[e]
  apply List.ext_getElem?
  intro i
  by_cases d:i=a
  ·subst d;rw[f,List.getElem?_set_self (by rw[h.1];exact c)]
  ·rw[List.getElem?_set_ne (Ne.symm d)]
theorem ZZa {n:Nat} {D:Mat} (h:Sq n D) {a b:Nat} {v:Int} (c:a<n):((kx D a b v).getD a []).length=n:=by
 obtain ⟨r,f,d,e⟩:=XX (K5 h a b v) c
 rw[d];exact e
theorem KUa (h:List Ob) (o out st:Nat) (ids:List (Nat × Nat)) (D:Mat) (n a b:Nat) (v:Int) (p:Nat × Nat) (k:TabAt h o out st ids D n) (A:a<n) (G:b<n) (z:ids[a]? =some p):
  ACalls Tryz.prog 268 [i64 a,i64 b,i64 v,.ptr o 0] h λr h'=>r= .tup []/\h'=h.set p.1 (.row 3 1 (((kx D a b v).getD a []).map zz) p.2):=by
 obtain ⟨r,H,C,E⟩:=XX k.sq A
 have d:=k.at_ a p z
 have g:(ids.map Jb)[a]? =some [.tl p.1 p.2]:=by rw[List.getElem?_map,z];rfl
 have c:((D.getD a []).map zz)[b]? =some [i64 (jL D a b)]:=by
  unfold jL
  rw[C,List.getElem?_map,List.getElem?_eq_getElem (by omega),List.getD_eq_getElem?_getD,List.getElem?_eq_getElem (by omega)]
  rfl
 have t:(a:Int)<(ids.length:Int):=by rw[k.len];omega
 have l2:(b:Int)<((D.getD a []).length:Int):=by rw[C,E];omega
 have f:((D.getD a []).map zz).set b [i64 v]=((Qm D a b v).getD a []).map zz:=by
  unfold Qm
  rw[KH (by rw[k.sq.1];exact A),List.map_set]
  rfl
 obtain ⟨m,l⟩:∃m,m=jL D a b:=⟨_,rfl⟩
 obtain ⟨j,i⟩:∃j,j=(D.getD a []).map zz:=⟨_,rfl⟩
 have F:(D.getD a []).length=j.length:=by rw[i,List.length_map]
 rw[<-i] at d c f
 rw[<-l] at c
 rw[F] at l2
 have u:=k.box
 have rx:=k.row
 refine zf Tryz.f268 [] 33 rfl rfl rfl rfl rfl rfl (by decide) (⟨_,_,⟨rfl,rfl⟩,zC d rfl⟩) λB=>?_
 simp only[go_sem,u,rx,g,d,c,t,l2,List.length_map,Int.toNat_natCast,Int.natCast_nonneg]
 cases w:m== -1
 ·have x:¬ jL D a b= -1:=by rw[<-l];simpa using w
  simp only[go_sem,w,zJ,u,rx,g,d,c,t,l2,List.length_map,Int.toNat_natCast,Int.natCast_nonneg]
  refine ways (λe=>?_) (λe=>?_)
  ·have y:v<jL D a b:=by rw[<-l];simpa using e
   have s:kx D a b v=Qm D a b v:=by unfold kx;rw[if_pos (.inr y)]
   simp only[go_sem,u,rx,g,d,c,t,l2,List.length_map,Int.toNat_natCast,Int.natCast_nonneg]
   rw[s, <-f]
   exact ⟨.tup [],by simp only[go_sem],.inl ⟨rfl,rfl⟩⟩
  ·have y:¬ v<jL D a b:=by rw[<-l];simpa using e
   have s:kx D a b v=D:=by unfold kx;rw[if_neg (λq=>q.elim x y)]
   simp only[go_sem]
   rw[s, <-i,zT d]
   exact ⟨.tup [],by simp only[go_sem],.inl ⟨rfl,rfl⟩⟩
 ·have x:jL D a b= -1:=by rw[<-l];simpa using w
  have s:kx D a b v=Qm D a b v:=by unfold kx;rw[if_pos (.inl x)]
  simp only[go_sem,w,zJ,u,rx,g,d,c,t,l2,List.length_map,Int.toNat_natCast,Int.natCast_nonneg]
  rw[s, <-f]
  exact ⟨.tup [],by simp only[go_sem],.inl ⟨rfl,rfl⟩⟩
theorem TabAt.near {h:List Ob} {o out st:Nat} {ids:List (Nat × Nat)} {D:Mat} {n:Nat} (k:TabAt h o out st ids D n) {a b:Nat} {v:Int} {p:Nat × Nat} (d:ids[a]? =some p) (c:a<n):TabAt (h.set p.1 (.row 3 1 (((kx D a b v).getD a []).map zz) p.2)) o out st ids (kx D a b v) n:=by
 have:=k.set d ((kx D a b v).getD a []) (ZZa k.sq c) c
 rwa[<-ZYa k.sq c] at this
theorem TabAt.rd {h:List Ob} {o out st:Nat} {ids:List (Nat × Nat)} {D:Mat} {n:Nat} (k:TabAt h o out st ids D n) {a:Nat} {p:Nat × Nat} (f:ids[a]? =some p) (d:a<n):∃X,h[p.1]? =some (.row 3 1 X p.2)/\X.length=n/\∀b,b<n->X[b]? =some [i64 (jL D a b)]:=by
 obtain ⟨r,g,c,e⟩:=XX k.sq d
 refine ⟨(D.getD a []).map zz,k.at_ a p f,by rw[List.length_map,c,e],λb i=>?_⟩
 unfold jL
 rw[c,List.getElem?_map,List.getElem?_eq_getElem (by omega),List.getD_eq_getElem?_getD,List.getElem?_eq_getElem (by omega)]
 rfl
theorem TabAt.ix {h:List Ob} {o out st:Nat} {ids:List (Nat × Nat)} {D:Mat} {n:Nat} (k:TabAt h o out st ids D n) {a:Nat} (c:a<n):∃p,ids[a]? =some p/\(ids.map Jb)[a]? =some [.tl p.1 p.2]/\p.1<h.length:=by
 have d:a<ids.length:=by rw[k.len];exact c
 have b:ids[a]? =some ids[a]:=List.getElem?_eq_getElem d
 exact ⟨ids[a],b,by rw[List.getElem?_map,b];rfl,(List.getElem?_eq_some_iff.1 (k.at_ a _ b)).1⟩
structure TabIn (h0 h:List Ob) (out n i:Nat) (ids:List (Nat × Nat)):Prop where
 pre:Pre h0 h
 row:h[out]? =some (.row 27 1 (ids.map Jb++List.replicate (n - i) [.v (.slice none 0 0)]) 0)
 box:h[out+1]? =some (.box 295 [.tl out 0])
 len:ids.length=i
 at_:∀(a:Nat) (p:Nat × Nat),ids[a]? =some p->out+2<=p.1/\h[p.1]? =some (.row 3 1 ((wwa n a).map zz) p.2)
 nd:(ids.map (·.1)).Nodup
theorem Z0a {n a:Nat} (b:a<n):(Qn n).getD a []=wwa n a:=by
 unfold Qn
 rw[List.getD_eq_getElem?_getD,List.getElem?_map,List.getElem?_range b]
 rfl
theorem TabIn.full {h0 h:List Ob} {out n:Nat} {ids:List (Nat × Nat)} (k:TabIn h0 h out n n ids):TabAt h (out+1) out 0 ids (Qn n) n:=by
 refine ⟨k.box,by have:=k.row;rw[Nat.sub_self] at this;simpa using this,k.len,k6a n,λa p q=>?_,k.nd⟩
 have b:a<n:=by rw[<-k.len];exact (List.getElem?_eq_some_iff.1 q).1
 rw[Z0a b]
 exact (k.at_ a p q).2
theorem JRa {s:Setup} (b:zw s=true):(1<=s.places/\s.places<=16)/\∀w∈s.ways,(0<=w.1/\w.1<s.places)/\(0<=w.2.1/\w.2.1<s.places):=by
 simp only[zw,vQ,Bool.and_eq_true] at b
 have e:=Qa b.1.1.1.1.1
 refine ⟨e,λw d=>?_⟩
 have c:=b.1.1.1.2
 simp only[Bool.not_eq_true',List.any_eq_false] at c
 have:=c w d
 have a:wr (s.places - 1)=s.places - 1:=zI (by unfold Fit;omega)
 simp[Z5,yK,W5,a] at this
 omega
theorem x9a (h:List Ob) {D:Mat} {n:Nat} (k:Sq n D):∃(L:List Ob) (out st:Nat) (ids:List (Nat × Nat)) (o:Nat),NoRes L/\TabAt (h++L) o out st ids D n:=by
 obtain ⟨M,e⟩:∃M,M=D.map λr=>Ob.row 3 1 (r.map zz) 0:=⟨_,rfl⟩
 obtain ⟨ids,c⟩:∃ids,ids=(List.range n).map λa=>(h.length+(2+a),0):=⟨_,rfl⟩
 refine ⟨.row 27 1 (ids.map Jb) 0:: .box 295 [.tl h.length 0]::M,h.length,0,ids,h.length+1,?_,zm (k:=1) rfl,zo rfl,by rw[c];simp,k,λa p d=>?_,?_⟩
 ·refine zg rfl (zg rfl λo g=>?_)
  rw[e] at g
  obtain ⟨r,_,rfl⟩:=List.mem_map.1 g
  rfl
 ·have f:a<n:=by
   have:=(List.getElem?_eq_some_iff.1 d).1
   rw[c] at this;simpa using this
  rw[c,List.getElem?_map,List.getElem?_range f] at d
  injection d with d
  subst d
  obtain ⟨r,j,i,l⟩:=XX k f
  simp only
  rw[zm rfl,show 2+a=a+1+1 by omega,List.getElem?_cons_succ,List.getElem?_cons_succ,e,List.getElem?_map,j,i]
  rfl
 ·rw[c,List.map_map]
  unfold List.Nodup
  rw[List.pairwise_map]
  refine List.Pairwise.imp (λ{a b} h=>?_) (List.nodup_range (n:=n))
  simpa using h
theorem Xo {α:Type} {n:Nat} {f:Mat->α->Mat} (a:∀D x,Sq n D->Sq n (f D x)):∀(l:List α) (D:Mat),Sq n D->Sq n (l.foldl f D)
 | [],_,h=>h
 | x::l,D,h=>Xo a l (f D x) (a D x h)
theorem JSa {n b y a:Nat} {D:Mat} (h:Sq n D):Sq n (Wj b y a D):=by
 unfold Wj
 split
 ·exact K5 h _ _ _
 ·exact h
theorem JTa {n y a:Nat} {D:Mat} (h:Sq n D):Sq n (Wk n y D a):=by
 unfold Wk
 split
 ·exact h
 ·exact Xo (λD x h=>JSa h) _ _ h
theorem JUa {n y:Nat} {D:Mat} (h:Sq n D):Sq n (q8a n D y):=Xo (λD x h=>JTa h) _ _ h
theorem Z1a (s:Setup):Sq s.places.toNat (wQ s):=
 Xo (λD x h=>JUa h) _ _ (Xo (λD w h=>K5 (K5 h _ _ _) _ _ _) _ _ (k6a _))
set_option maxHeartbeats 2000000 in
theorem c91 (h:List Ob) (s:Setup) (a:SA) (k:SIn h s a) (f:SFit s) (hs:zw s=true):
  ACalls Tryz.prog 233 [z6 s a] h λr h'=>∃(L:List Ob) (out st:Nat) (ids:List (Nat × Nat)) (o:Nat),h'=h++L/\NoRes L/\r= .tl out st/\TabAt h' o out st ids (wQ s) s.places.toNat:=by
 have hex:∃r h',(∃(L:List Ob) (out st:Nat) (ids:List (Nat × Nat)) (o:Nat),h'=h++L/\NoRes L/\r=AV.tl out st/\TabAt h' o out st ids (wQ s) s.places.toNat)/\ResK h h':=by
  obtain ⟨L,out,st,ids,o,q1,q2⟩:=x9a h (Z1a s)
  exact ⟨_,_,⟨L,out,st,ids,o,rfl,q1,rfl,q2⟩,zR⟩
 obtain ⟨⟨p1,p2⟩,σ⟩:=JRa hs
 obtain ⟨n,hn⟩:∃n:Nat,n=s.places.toNat:=⟨_,rfl⟩
 have ε:s.places=(n:Int):=by omega
 have hnb:(n:Int)*25<=140737488355328:=by omega
 refine zf Tryz.f233 [.tmp 2] 109 rfl rfl rfl rfl rfl rfl (by decide) (hex) λB=>?_
 simp only[go_sem,k.w.one,k.e.one,k.c.one,k.g.one,k.r.one,k.t.one]
 refine zc (c16 _ s a (k.app _) f) ?_
 rintro _ h1 ⟨rfl,e2⟩
 subst e2
 obtain ⟨h0,O⟩:∃h0,h0=h++[Ob.box 30 (zr s a)]:=⟨_,rfl⟩
 have hl0:h0.length=h.length+1:=by rw[O];simp
 have h30:h0[h.length]? =some (.box 30 (zr s a)):=by rw[O];exact zo rfl
 have k0:SIn h0 s a:=by rw[O];exact k.app _
 have hP:(h++[Ob.box 30 (zr s a)])[h.length]? =some (.box 30 (zr s a)):=zo rfl
 simp only[go_sem,hs,Bool.not_true,ε,hnb,Int.toNat_natCast,Int.natCast_nonneg]
 refine zj (by decide) (λm T h'=>∃(i:Nat) (ids:List (Nat × Nat)),i<=n/\TabIn h0 h' (h.length+1) n i ids/\T 1= .ptr h.length 0/\T 3= .ptr (h.length+2) 0/\T 19=i64 n/\T 20=i64 i/\m=n - i) n
  ⟨0,[],by omega,⟨⟨_,by rw[O,List.append_assoc];rfl,zg rfl (zi rfl)⟩,by rw[zm (k:=1) rfl];rfl,by rw[zm (k:=2) rfl];rfl,rfl,λ_ _ q=>by simp at q,.nil⟩,by simp only[go_sem],by simp only[go_sem],by simp only[go_sem],by (simp only[go_sem]<;>rfl),rfl⟩ ?_
 rintro m T h' ⟨i,ids,hi,A,t1,t3,θ,γ,rfl⟩
 simp only[go_sem,θ,γ]
 refine ways (λe=>?_) (λe=>?_)
 ·have H:i<n:=dlt e
  have E:∀M,(h'++M)[h.length]? =some (.box 30 (zr s a)):=λM=>by
   obtain ⟨L,rfl,_⟩:=A.pre
   rw[List.append_assoc];exact zb h30
  have hbx:∀M,(h'++M)[h.length+2]? =some (.box 295 [.tl (h.length+1) 0]):=λM=>zb A.box
  have hrw:∀M,(h'++M)[h.length+1]? =some (.row 27 1 (ids.map Jb++List.replicate (n - i) [.v (.slice none 0 0)]) 0):=λM=>zb A.row
  have ρ:(ids.map Jb++List.replicate (n - i) [AV.v (.slice none 0 0)]).length=n:=by simp[A.len];omega
  have hil:(i:Int)<(n:Int):=by omega
  simp only[go_sem]
  refine zn rfl [.res] 1 [(1,0,[]),(3,0,[]),(0,0,[]),(4,0,[]),(2,0,[]),(5,0,[0]),(6,0,[]),(7,0,[])] rfl (by decide) (by decide) ?_
  simp only[go_sem,t1,t3,θ,γ,hbx,hrw,E,ε]
  refine zc (Y2a (h'++[Ob.row 3 1 [[i64 (-1)]] 0]) (.tl h'.length 0) (-1) n (X6 (by rw[zo rfl];rfl)) (by omega) (by omega)) ?_
  rintro _ h4 ⟨L,id,st,rfl,n1,hid,rfl,ι⟩
  have hlen':h.length+2<h'.length:=(List.getElem?_eq_some_iff.1 A.box).1
  simp only[List.length_append,List.length_cons,List.length_nil] at hid
  obtain ⟨Z,I⟩:∃Z,Z=h'++[Ob.row 3 1 [[i64 (-1)]] 0]++L:=⟨_,rfl⟩
  have hp5:Pre h0 Z:=by rw[I];exact (A.pre.app (zi rfl)).app n1
  have b5:Z[h.length+2]? =some (.box 295 [.tl (h.length+1) 0]):=by rw[I,List.append_assoc];exact hbx _
  have r5:Z[h.length+1]? =some (.row 27 1 (ids.map Jb++List.replicate (n - i) [.v (.slice none 0 0)]) 0):=by rw[I,List.append_assoc];exact hrw _
  have at5:∀(a:Nat) (p:Nat × Nat),ids[a]? =some p->Z[p.1]? =some (.row 3 1 ((wwa n a).map zz) p.2):=λa p q=>by
   rw[I,List.append_assoc];exact zb (A.at_ a p q).2
  rw[<-I] at ι
  obtain ⟨R,hR⟩:∃R,R=ids.map Jb++List.replicate (n - i) [AV.v (.slice none 0 0)]:=⟨_,rfl⟩
  rw[<-hR] at r5 ρ
  have hset:R.set i [.tl id st]=(ids++[(id,st)]).map Jb++List.replicate (n - (i+1)) [AV.v (.slice none 0 0)]:=by
   rw[hR,List.set_append_right _ _ (by simp[A.len])]
   simp only[List.length_map,A.len,Nat.sub_self,List.map_append,List.map_cons,List.map_nil]
   rw[show n - i=(n - (i+1))+1 by omega,List.replicate_succ]
   simp
  have rI:R[i]? =some [AV.v (.slice none 0 0)]:=by
   rw[hR,List.getElem?_append_right (by simp[A.len]),List.length_map,A.len,Nat.sub_self,List.getElem?_replicate,if_pos (by omega)]
  have s1:∀o,(Z.set (h.length+1) o)[h.length+1]? =some o:=λo=>zh r5
  have s2:∀o,(Z.set (h.length+1) o)[h.length+2]? =some (.box 295 [.tl (h.length+1) 0]):=λo=>by rw[List.getElem?_set_ne (by omega)];exact b5
  have s3:∀o,(Z.set (h.length+1) o)[id]? =some (.row 3 1 (List.replicate n [i64 (-1)]) st):=λo=>by rw[List.getElem?_set_ne (by omega)];exact ι
  have s4:(R.set i [.tl id st])[i]? =some [.tl id st]:=List.getElem?_set_self (by omega)
  have s5:(R.set i [.tl id st]).length=n:=by rw[List.length_set];exact ρ
  have s7:(List.replicate n [i64 (-1)])[i]? =some [i64 (-1)]:=by rw[List.getElem?_replicate,if_pos H]
  have s6:(List.replicate n [i64 (-1)]).length=n:=List.length_replicate
  rw[<-I]
  simp only[go_sem,t3,γ,b5,r5,ρ,hil,rI,s1,s2,s3,s4,s5,s6,s7,Int.toNat_natCast,Int.natCast_nonneg]
  have μ:∀(a:Nat) (p:Nat × Nat),ids[a]? =some p->p.1<h'.length:=λa p q=>(List.getElem?_eq_some_iff.1 (A.at_ a p q).2).1
  have hF:TabIn h0 ((Z.set (h.length+1) (.row 27 1 (R.set i [.tl id st]) 0)).set id (.row 3 1 ((List.replicate n [i64 (-1)]).set i [i64 0]) st)) (h.length+1) n (i+1) (ids++[(id,st)]):=by
   refine ⟨(hp5.set (by omega) rfl).set (by omega) rfl,?_,?_,by simp[A.len],λa p q=>?_,?_⟩
   ·rw[List.getElem?_set_ne (by omega),s1,hset]
   ·rw[List.getElem?_set_ne (by omega)];exact s2 _
   ·by_cases ha:a<i
    ·rw[List.getElem?_append_left (by rw[A.len];exact ha)] at q
     have h1:=A.at_ a p q
     have h2:=μ a p q
     exact ⟨h1.1,by rw[List.getElem?_set_ne (by omega),List.getElem?_set_ne (by omega)];exact at5 a p q⟩
    ·have hai:a=i:=by
      have:=(List.getElem?_eq_some_iff.1 q).1
      simp[A.len] at this
      omega
     subst hai
     rw[List.getElem?_append_right (by rw[A.len];exact Nat.le_refl _),A.len,Nat.sub_self] at q
     injection q with q
     subst q
     refine ⟨by simp only;omega,?_⟩
     rw[zh (s3 _)]
     simp[wwa,zz,List.map_set]
   ·rw[List.map_append,List.nodup_append]
    refine ⟨A.nd,by simp,λx hx y hy=>?_⟩
    obtain ⟨p,hp,rfl⟩:=List.mem_map.1 hx
    obtain ⟨a,ha⟩:=List.mem_iff_getElem?.1 hp
    have:=μ a p ha
    simp at hy
    omega
  exact ⟨n - (i+1),by omega,i+1,ids++[(id,st)],by omega,hF,t1,θ,zx (by omega) rfl,rfl⟩
 ·have hge:n<=i:=qU e
  have U:i=n:=by omega
  subst U
  have d:=A.full
  have l:=A.pre
  have Q:∀(a:Nat) (p:Nat × Nat),ids[a]? =some p->h0.length<=p.1:=λa p q=>by have:=(A.at_ a p q).1;omega
  clear A hi
  have E:∀ {h':List Ob},Pre h0 h'->h'[h.length]? =some (.box 30 (zr s a)):=λ{h'} q=>by
   obtain ⟨L,rfl,_⟩:=q
   exact zb h30
  have F:=E l
  have hwr:∀ {h':List Ob},Pre h0 h'->SlOf h' a.w 3 (s.ways.map ZM):=λ{h'} q=>(q.sin k0).w
  have N:=hwr l
  have q0:=l.sin k0
  simp only[go_sem,t1,t3,F,N.rows,N.one,q0.e.one,q0.c.one,q0.g.one,q0.r.one,q0.t.one,List.length_map]
  refine zj (by decide) (λm T h'=>∃(j:Nat),j<=s.ways.length/\Pre h0 h'/\TabAt h' (h.length+2) (h.length+1) 0 ids ((s.ways.take j).foldl xYa (Qn i)) i/\T 1= .ptr h.length 0/\T 3= .ptr (h.length+2) 0/\T 5= .fn (.func 268) [] [.ptr (h.length+2) 0]/\T 39=a.w/\T 40=i64 s.ways.length/\T 41=i64 j/\m=s.ways.length - j) s.ways.length
   ⟨0,by omega,l,d,by simp only[go_sem,t1],by simp only[go_sem,t3],by simp only[go_sem],by simp only[go_sem],by simp only[go_sem],by (simp only[go_sem]<;>rfl),rfl⟩ ?_
  clear t1 t3 θ γ d l F N q0
  rintro m T h' ⟨j,hj,l,d,t1,t3,t5,t39,υ,δ,rfl⟩
  have N:=hwr l
  simp only[go_sem,υ,δ]
  refine ways (λe=>?_) (λe=>?_)
  ·have H:=dlt e
   have hee:=N.at (i:=j) (by simpa using H)
   have S:(s.ways.map ZM)[j]? =some (ZM s.ways[j]):=by rw[List.getElem?_map,List.getElem?_eq_getElem H];rfl
   have hkl:(j:Int)<s.ways.length:=by omega
   have U:=σ s.ways[j] (List.getElem_mem H)
   have G:(s.ways.take (j+1)).foldl xYa (Qn i)=xYa ((s.ways.take j).foldl xYa (Qn i)) s.ways[j]:=by
    rw[<-List.take_append_getElem H,List.foldl_append];rfl
   obtain ⟨w,hw⟩:∃w,w=s.ways[j]:=⟨_,rfl⟩
   rw[<-hw] at S U G
   obtain ⟨w1,w2,P⟩:=w
   simp only at U
   obtain ⟨⟨i1,i2⟩,i3,i4⟩:=U
   obtain ⟨W,rfl⟩:=Int.eq_ofNat_of_zero_le i1
   obtain ⟨V,rfl⟩:=Int.eq_ofNat_of_zero_le i3
   obtain ⟨D,hD⟩:∃D,D=(s.ways.take j).foldl xYa (Qn i):=⟨_,rfl⟩
   rw[<-hD] at d G
   have ha:W<i:=by omega
   have hb:V<i:=by omega
   obtain ⟨pa,a1,a2,a3⟩:=d.ix ha
   obtain ⟨pb,b1,b2,b3⟩:=d.ix hb
   have hA:List.length (ZM ((W:Int),(V:Int),P))=3:=rfl
   have hw3:ZM ((W:Int),(V:Int),P)=[i64 W,i64 V,i64 P]:=rfl
   rw[hw3] at S
   simp only[go_sem,t39,δ,t5,hee,N.rows,S,hkl,List.length_map,Int.toNat_natCast,Int.natCast_nonneg]
   refine zc (KUa (h'++[Ob.box 205 [i64 W,i64 V,i64 P]]) (h.length+2) (h.length+1) 0 ids D i W V P pa (d.app _) ha hb a1) ?_
   rintro _ h4 ⟨rfl,rfl⟩
   have α:=(d.app [Ob.box 205 [i64 W,i64 V,i64 P]]).near (b:=V) (v:=P) a1 ha
   have g1:∀o,((h'++[Ob.box 205 [i64 W,i64 V,i64 P]]).set pa.1 o)[h'.length]? =some (.box 205 [i64 W,i64 V,i64 P]):=λo=>by
    rw[List.getElem?_set_ne (by omega),zo rfl];rfl
   simp only[go_sem,t5,g1]
   refine zc (KUa _ (h.length+2) (h.length+1) 0 ids _ i V W P pb α hb ha b1) ?_
   rintro _ h4 ⟨rfl,rfl⟩
   have ht3:=α.near (b:=W) (v:=P) b1 hb
   simp only[go_sem,δ]
   exact ⟨s.ways.length - (j+1),by omega,j+1,by omega,((l.app (zi rfl)).set (Q _ _ a1) rfl).set (Q _ _ b1) rfl,by rw[G];exact ht3,t1,t3,t5,t39,υ,zx (by have:=f.nw;omega) rfl,rfl⟩
  ·have hge2:=qU e
   have hj2:j=s.ways.length:=by omega
   subst hj2
   rw[List.take_length] at d
   obtain ⟨D0,hD0⟩:∃D0,D0=s.ways.foldl xYa (Qn i):=⟨_,rfl⟩
   rw[<-hD0] at d
   have F:=E l
   simp only[go_sem,t1,t3,F,ε]
   refine zj (by decide) (λm T h'=>∃(y:Nat),y<=i/\Pre h0 h'/\TabAt h' (h.length+2) (h.length+1) 0 ids ((List.range y).foldl (q8a i) D0) i/\T 1= .ptr h.length 0/\T 3= .ptr (h.length+2) 0/\T 5= .fn (.func 268) [] [.ptr (h.length+2) 0]/\T 63=i64 i/\T 64=i64 y/\m=i - y) i
    ⟨0,by omega,l,d,by simp only[go_sem,t1],by simp only[go_sem,t3],by simp only[go_sem,t5],by simp only[go_sem],by (simp only[go_sem]<;>rfl),rfl⟩ ?_
   clear t1 t3 t5 t39 υ δ d l F
   rintro m T h' ⟨y,hy,l,d,t1,t3,t5,z,u,rfl⟩
   simp only[go_sem,z,u]
   refine ways (λe=>?_) (λe=>?_)
   ·have K:y<i:=dlt e
    have hfy:(List.range (y+1)).foldl (q8a i) D0=q8a i ((List.range y).foldl (q8a i) D0) y:=by
     rw[List.range_succ,List.foldl_append];rfl
    obtain ⟨D1,hD1⟩:∃D1,D1=(List.range y).foldl (q8a i) D0:=⟨_,rfl⟩
    rw[<-hD1] at d hfy
    have F:=E l
    simp only[go_sem]
    refine Wb (by decide) ?_
    simp only[go_sem,t1,F,ε]
    refine zj (by decide) (λm T h'=>∃(x:Nat),x<=i/\Pre h0 h'/\TabAt h' (h.length+2) (h.length+1) 0 ids ((List.range x).foldl (Wk i y) D1) i/\T 1= .ptr h.length 0/\T 3= .ptr (h.length+2) 0/\T 5= .fn (.func 268) [] [.ptr (h.length+2) 0]/\T 63=i64 i/\T 64=i64 y/\T 8=i64 y/\T 68=i64 i/\T 69=i64 x/\m=i - x) i
     ⟨0,by omega,l,d,by simp only[go_sem,t1],by simp only[go_sem,t3],by simp only[go_sem,t5],by simp only[go_sem,z],by simp only[go_sem,u],by simp only[go_sem,u],by simp only[go_sem],by (simp only[go_sem]<;>rfl),rfl⟩ ?_
    clear t1 t3 t5 z u d l F
    rintro m T h' ⟨x,hx,l,d,t1,t3,t5,z,u,t8,C,t69,rfl⟩
    simp only[go_sem,C,t69]
    refine ways (λe=>?_) (λe=>?_)
    ·have J:x<i:=dlt e
     have ξ:(List.range (x+1)).foldl (Wk i y) D1=Wk i y ((List.range x).foldl (Wk i y) D1) x:=by
      rw[List.range_succ,List.foldl_append];rfl
     obtain ⟨D2,hD2⟩:∃D2,D2=(List.range x).foldl (Wk i y) D1:=⟨_,rfl⟩
     rw[<-hD2] at d ξ
     obtain ⟨px,x1,x2,x3⟩:=d.ix J
     obtain ⟨py,y1,y2,y3⟩:=d.ix K
     obtain ⟨X,X1,X2,X3⟩:=d.rd x1 J
     obtain ⟨Y,Y1,Y2,Y3⟩:=d.rd y1 K
     have ζ:=X3 y K
     have bx:=d.box
     have rx:=d.row
     have lx:(x:Int)<(ids.length:Int):=by rw[d.len];omega
     have ly:(y:Int)<(ids.length:Int):=by rw[d.len];omega
     have lX:(y:Int)<(X.length:Int):=by rw[X2];omega
     simp only[go_sem,t3,t8,t69,bx,rx,x2,X1,ζ,lx,lX,List.length_map,Int.toNat_natCast,Int.natCast_nonneg]
     cases f1:jL D2 x y== -1
     ·have g1:¬ jL D2 x y= -1:=by simpa using f1
      simp only[go_sem,f1,t3,t8,bx,rx,y2,Y1,Y2,ly,List.length_map,Int.toNat_natCast,Int.natCast_nonneg]
      refine zj (by decide) (λm T h'=>∃(b:Nat),b<=i/\Pre h0 h'/\TabAt h' (h.length+2) (h.length+1) 0 ids ((List.range b).foldl (λD b=>Wj b y x D) D2) i/\T 1= .ptr h.length 0/\T 3= .ptr (h.length+2) 0/\T 5= .fn (.func 268) [] [.ptr (h.length+2) 0]/\T 63=i64 i/\T 64=i64 y/\T 8=i64 y/\T 9=i64 x/\T 68=i64 i/\T 69=i64 x/\T 83= .tl py.1 py.2/\T 84=i64 i/\T 85=i64 b/\m=i - b) i
       ⟨0,by omega,l,d,by simp only[go_sem,t1],by simp only[go_sem,t3],by simp only[go_sem,t5],by simp only[go_sem,z],by simp only[go_sem,u],by simp only[go_sem,t8],by simp only[go_sem],by simp only[go_sem,C],by simp only[go_sem,t69],by simp only[go_sem],by simp only[go_sem],by (simp only[go_sem]<;>rfl),rfl⟩ ?_
      clear t1 t3 t5 z u t8 C t69 d l bx rx X1 Y1 ζ
      rintro m T h' ⟨b,hb,l,d,t1,t3,t5,z,u,t8,t9,C,t69,t83,t84,β,rfl⟩
      simp only[go_sem,t84,β]
      refine ways (λe=>?_) (λe=>?_)
      ·have τ:b<i:=dlt e
       have ο:(List.range (b+1)).foldl (λD b=>Wj b y x D) D2=Wj b y x ((List.range b).foldl (λD b=>Wj b y x D) D2):=by
        rw[List.range_succ,List.foldl_append];rfl
       obtain ⟨D3,hD3⟩:∃D3,D3=(List.range b).foldl (λD b=>Wj b y x D) D2:=⟨_,rfl⟩
       rw[<-hD3] at d ο
       obtain ⟨X,X1,X2,X3⟩:=d.rd x1 J
       obtain ⟨Y,Y1,Y2,Y3⟩:=d.rd y1 K
       have ζ:=X3 y K
       have hYb:=Y3 b τ
       have bx:=d.box
       have rx:=d.row
       have lX:(y:Int)<(X.length:Int):=by rw[X2];omega
       have lY:(b:Int)<(Y.length:Int):=by rw[Y2];omega
       simp only[go_sem,t83,β,Y1,hYb,lY,List.length_map,Int.toNat_natCast,Int.natCast_nonneg]
       refine ways (λe2=>?_) (λe2=>?_)
       ·have g2:jL D3 y b≠ -1:=by simpa using e2
        simp only[go_sem,t3,t5,t8,t9,bx,rx,x2,X1,ζ,lx,lX,List.length_map,Int.toNat_natCast,Int.natCast_nonneg]
        refine zc (KUa _ (h.length+2) (h.length+1) 0 ids _ i x b _ px d J τ x1) ?_
        rintro _ h4 ⟨rfl,rfl⟩
        have α:=d.near (b:=b) (v:=wr (jL D3 x y+jL D3 y b)) x1 J
        simp only[go_sem,β]
        exact ⟨i - (b+1),by omega,b+1,by omega,l.set (Q _ _ x1) rfl,by rw[ο];unfold Wj;rw[if_pos g2];exact α,t1,t3,t5,z,u,t8,t9,C,t69,t83,t84,zx (by omega) rfl,rfl⟩
       ·have g2:¬ jL D3 y b≠ -1:=by simpa using e2
        simp only[go_sem,β]
        exact ⟨i - (b+1),by omega,b+1,by omega,l,by rw[ο];unfold Wj;rw[if_neg g2];exact d,t1,t3,t5,z,u,t8,t9,C,t69,t83,t84,zx (by omega) rfl,rfl⟩
      ·have τ:i<=b:=qU e
       have hbe:b=i:=by omega
       subst hbe
       simp only[go_sem,t69]
       exact ⟨b - (x+1),by omega,x+1,by omega,l,by rw[ξ];unfold Wk;rw[if_neg g1];exact d,t1,t3,t5,z,u,t8,C,zx (by omega) rfl,rfl⟩
     ·have g1:jL D2 x y= -1:=by simpa using f1
      simp only[go_sem,f1,t69]
      exact ⟨i - (x+1),by omega,x+1,by omega,l,by rw[ξ];unfold Wk;rw[if_pos g1];exact d,t1,t3,t5,z,u,t8,C,zx (by omega) rfl,rfl⟩
    ·have J:i<=x:=qU e
     have hxe:x=i:=by omega
     subst hxe
     simp only[go_sem,u]
     exact ⟨x - (y+1),by omega,y+1,by omega,l,by rw[hfy];exact d,t1,t3,t5,z,zx (by omega) rfl,rfl⟩
   ·have K:i<=y:=qU e
    have hye:y=i:=by omega
    subst hye
    have bx:=d.box
    simp only[go_sem,t3,bx]
    have hlen0:h0=h++[Ob.box 30 (zr s a)]:=O
    have hpr:Pre h h':=by
     have:Pre h h0:=⟨_,O,zi rfl⟩
     exact this.trans l
    obtain ⟨L,rfl,hN⟩:=hpr
    refine ⟨.tl (h.length+1) 0,by simp only[go_sem],.inl ⟨L,h.length+1,0,ids,h.length+2,rfl,hN,rfl,?_⟩⟩
    have:wQ s=(List.range y).foldl (q8a y) D0:=by
     unfold wQ
     rw[<-hn,hD0]
    rw[this]
    exact d
end Go.Proofs.YtfmldcilgbbimaaGreat.Ax
