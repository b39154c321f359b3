/-
  Joined.
-/
import Derived.Test.YtfmldcilgbbimaaGreatK25
import Derived.Test.YtfmldcilgbbimaaGreatK23
set_option linter.unusedSimpArgs false
set_option linter.unusedVariables false
namespace Go.Proofs.YtfmldcilgbbimaaGreat.Ax
open Go Go.Proofs
set_option maxRecDepth 100000
attribute [go_sem] yia vIa xza q4a
abbrev Zt (p:Nat × Nat):List AV:=[.tl p.1 p.2]
theorem Jw {D:Mat} {a:Nat} (b:a<D.length) (r:List Int):(D.set a r).getD a []=r:=by
 rw[List.getD_eq_getElem?_getD,List.getElem?_set_self b]
 rfl
structure TabAt (h:List Ob) (o out st:Nat) (ids:List (Nat × Nat)) (D:Mat) (n:Nat):Prop where
 box:h[o]? =some (.box 295 [.tl out st])
 row:h[out]? =some (.row 27 1 (ids.map Zt) st)
 len:ids.length=n
 sq:Sq n D
 at_:∀(a:Nat) (p:Nat × Nat),ids[a]? =some p->h[p.1]? =some (.row 3 1 ((D.getD a []).map zH) p.2)
 nd:(ids.map (·.1)).Nodup
theorem TabAt.app {h:List Ob} {o out st:Nat} {ids:List (Nat × Nat)} {D:Mat} {n:Nat} (k:TabAt h o out st ids D n) (M:List Ob):TabAt (h++M) o out st ids D n:=
 ⟨zb k.box,zb k.row,k.len,k.sq,λa p q=>zb (k.at_ a p q),k.nd⟩
theorem TabAt.set {h:List Ob} {o out st:Nat} {ids:List (Nat × Nat)} {D:Mat} {n:Nat} (k:TabAt h o out st ids D n) {a:Nat} {p:Nat × Nat} (f:ids[a]? =some p) (r:List Int) (u:r.length=n) (i:a<n):TabAt (h.set p.1 (.row 3 1 (r.map zH) p.2)) o out st ids (D.set a r) n:=by
 have c:=k.at_ a p f
 have w:p.1≠o:=λq=>by rw[q,k.box] at c;cases c
 have t:p.1≠out:=λq=>by rw[q,k.row] at c;injection c with c;injection c with h1;cases h1
 refine ⟨by rw[List.getElem?_set_ne w];exact k.box,by rw[List.getElem?_set_ne t];exact k.row,k.len,⟨by rw[List.length_set];exact k.sq.1,λx j=>?_⟩,λb q d=>?_,k.nd⟩
 ·rcases List.mem_or_eq_of_mem_set j with j | rfl
  ·exact k.sq.2 x j
  ·exact u
 ·by_cases g:b=a
  ·subst g
   rw[f] at d;injection d with d;subst d
   rw[zh c,List.getD_eq_getElem?_getD,List.getElem?_set_self (by rw[k.sq.1];exact i)]
   rfl
  ·have l:p.1≠q.1:=λe=>by
    have v:a<ids.length:=(List.getElem?_eq_some_iff.1 f).1
    have m:b<ids.length:=(List.getElem?_eq_some_iff.1 d).1
    have y:(ids.map (·.1))[a]? =some p.1:=by rw[List.getElem?_map,f];rfl
    have s:(ids.map (·.1))[b]? =some q.1:=by rw[List.getElem?_map,d];rfl
    have:=(List.getElem?_inj (by simpa using v) k.nd).1 (y.trans (by rw[s,e]))
    exact g this.symm
   rw[List.getElem?_set_ne l,k.at_ b q d,List.getD_eq_getElem?_getD,List.getD_eq_getElem?_getD,List.getElem?_set_ne (Ne.symm g)]
theorem vaa {n:Nat} {D:Mat} (h:Sq n D) {a b:Nat} {v:Int} (c:a<n):xn D a b v=D.set a ((xn D a b v).getD a []):=by
 obtain ⟨r,f,e,g⟩:=QY h c
 unfold xn
 split
 ·unfold yQ
  rw[Jw (by rw[h.1];exact c)]
 ·rw[e]
  apply List.ext_getElem?
  intro i
  by_cases d:i=a
  ·subst d;rw[f,List.getElem?_set_self (by rw[h.1];exact c)]
  ·rw[List.getElem?_set_ne (Ne.symm d)]
theorem vba {n:Nat} {D:Mat} (h:Sq n D) {a b:Nat} {v:Int} (e:a<n):((xn D a b v).getD a []).length=n:=by
 obtain ⟨r,f,c,d⟩:=QY (JV h a b v) e
 rw[c];exact d
theorem Zqa (h:List Ob) (o out st:Nat) (ids:List (Nat × Nat)) (D:Mat) (n a b:Nat) (v:Int) (p:Nat × Nat) (k:TabAt h o out st ids D n) (A:a<n) (H:b<n) (C:ids[a]? =some p):
  ACalls Tryz.prog 268 [i64 a,i64 b,i64 v,.ptr o 0] h λr h'=>r= .tup []/\h'=h.set p.1 (.row 3 1 (((xn D a b v).getD a []).map zH) p.2):=by
 obtain ⟨r,G,z,F⟩:=QY k.sq A
 have d:=k.at_ a p C
 have g:(ids.map Zt)[a]? =some [.tl p.1 p.2]:=by rw[List.getElem?_map,C];rfl
 have c:((D.getD a []).map zH)[b]? =some [i64 (jm D a b)]:=by
  unfold jm
  rw[z,List.getElem?_map,List.getElem?_eq_getElem (by omega),List.getD_eq_getElem?_getD,List.getElem?_eq_getElem (by omega)]
  rfl
 have w:(a:Int)<(ids.length:Int):=by rw[k.len];omega
 have l2:(b:Int)<((D.getD a []).length:Int):=by rw[z,F];omega
 have f:((D.getD a []).map zH).set b [i64 v]=((yQ D a b v).getD a []).map zH:=by
  unfold yQ
  rw[Jw (by rw[k.sq.1];exact A),List.map_set]
  rfl
 obtain ⟨m,l⟩:∃m,m=jm D a b:=⟨_,rfl⟩
 obtain ⟨j,i⟩:∃j,j=(D.getD a []).map zH:=⟨_,rfl⟩
 have E:(D.getD a []).length=j.length:=by rw[i,List.length_map]
 rw[<-i] at d c f
 rw[<-l] at c
 rw[E] at l2
 have t:=k.box
 have rx:=k.row
 refine zf Tryz.f268 [] 33 rfl rfl rfl rfl rfl rfl (by decide) (⟨_,_,⟨rfl,rfl⟩,zJ d rfl⟩) λB=>?_
 simp only[go_sem,t,rx,g,d,c,w,l2,List.length_map,Int.toNat_natCast,Int.natCast_nonneg]
 cases u:m== -1
 ·have y:¬ jm D a b= -1:=by rw[<-l];simpa using u
  simp only[go_sem,u,zM,t,rx,g,d,c,w,l2,List.length_map,Int.toNat_natCast,Int.natCast_nonneg]
  refine ways (λe=>?_) (λe=>?_)
  ·have x:v<jm D a b:=by rw[<-l];simpa using e
   have s:xn D a b v=yQ D a b v:=by unfold xn;rw[if_pos (.inr x)]
   simp only[go_sem,t,rx,g,d,c,w,l2,List.length_map,Int.toNat_natCast,Int.natCast_nonneg]
   rw[s, <-f]
   exact ⟨.tup [],by simp only[go_sem],.inl ⟨rfl,rfl⟩⟩
  ·have x:¬ v<jm D a b:=by rw[<-l];simpa using e
   have s:xn D a b v=D:=by unfold xn;rw[if_neg (λq=>q.elim y x)]
   simp only[go_sem]
   rw[s, <-i,zW d]
   exact ⟨.tup [],by simp only[go_sem],.inl ⟨rfl,rfl⟩⟩
 ·have y:jm D a b= -1:=by rw[<-l];simpa using u
  have s:xn D a b v=yQ D a b v:=by unfold xn;rw[if_pos (.inl y)]
  simp only[go_sem,u,zM,t,rx,g,d,c,w,l2,List.length_map,Int.toNat_natCast,Int.natCast_nonneg]
  rw[s, <-f]
  exact ⟨.tup [],by simp only[go_sem],.inl ⟨rfl,rfl⟩⟩
theorem TabAt.near {h:List Ob} {o out st:Nat} {ids:List (Nat × Nat)} {D:Mat} {n:Nat} (k:TabAt h o out st ids D n) {a b:Nat} {v:Int} {p:Nat × Nat} (d:ids[a]? =some p) (c:a<n):TabAt (h.set p.1 (.row 3 1 (((xn D a b v).getD a []).map zH) p.2)) o out st ids (xn D a b v) n:=by
 have:=k.set d ((xn D a b v).getD a []) (vba k.sq c) c
 rwa[<-vaa k.sq c] at this
theorem TabAt.rd {h:List Ob} {o out st:Nat} {ids:List (Nat × Nat)} {D:Mat} {n:Nat} (k:TabAt h o out st ids D n) {a:Nat} {p:Nat × Nat} (d:ids[a]? =some p) (f:a<n):∃X,h[p.1]? =some (.row 3 1 X p.2)/\X.length=n/\∀b,b<n->X[b]? =some [i64 (jm D a b)]:=by
 obtain ⟨r,i,c,e⟩:=QY k.sq f
 refine ⟨(D.getD a []).map zH,k.at_ a p d,by rw[List.length_map,c,e],λb g=>?_⟩
 unfold jm
 rw[c,List.getElem?_map,List.getElem?_eq_getElem (by omega),List.getD_eq_getElem?_getD,List.getElem?_eq_getElem (by omega)]
 rfl
theorem TabAt.ix {h:List Ob} {o out st:Nat} {ids:List (Nat × Nat)} {D:Mat} {n:Nat} (k:TabAt h o out st ids D n) {a:Nat} (c:a<n):∃p,ids[a]? =some p/\(ids.map Zt)[a]? =some [.tl p.1 p.2]/\p.1<h.length:=by
 have d:a<ids.length:=by rw[k.len];exact c
 have b:ids[a]? =some ids[a]:=List.getElem?_eq_getElem d
 exact ⟨ids[a],b,by rw[List.getElem?_map,b];rfl,(List.getElem?_eq_some_iff.1 (k.at_ a _ b)).1⟩
structure TabIn (h0 h:List Ob) (out n i:Nat) (ids:List (Nat × Nat)):Prop where
 pre:Pre h0 h
 row:h[out]? =some (.row 27 1 (ids.map Zt++List.replicate (n - i) [.v (.slice none 0 0)]) 0)
 box:h[out+1]? =some (.box 295 [.tl out 0])
 len:ids.length=i
 at_:∀(a:Nat) (p:Nat × Nat),ids[a]? =some p->out+2<=p.1/\h[p.1]? =some (.row 3 1 ((jWa n a).map zH) p.2)
 nd:(ids.map (·.1)).Nodup
theorem vca {n a:Nat} (b:a<n):(yR n).getD a []=jWa n a:=by
 unfold yR
 rw[List.getD_eq_getElem?_getD,List.getElem?_map,List.getElem?_range b]
 rfl
theorem TabIn.full {h0 h:List Ob} {out n:Nat} {ids:List (Nat × Nat)} (k:TabIn h0 h out n n ids):TabAt h (out+1) out 0 ids (yR n) n:=by
 refine ⟨k.box,by have:=k.row;rw[Nat.sub_self] at this;simpa using this,k.len,qxa n,λa p q=>?_,k.nd⟩
 have b:a<n:=by rw[<-k.len];exact (List.getElem?_eq_some_iff.1 q).1
 rw[vca b]
 exact (k.at_ a p q).2
theorem wIa {s:Setup} (a:zz s=true):(1<=s.places/\s.places<=16)/\∀w∈s.ways,(0<=w.1/\w.1<s.places)/\(0<=w.2.1/\w.2.1<s.places):=by
 simp only[zz,vD,Bool.and_eq_true] at a
 have d:=wC a.1.1.1.1.1
 refine ⟨d,λw e=>?_⟩
 have c:=a.1.1.1.2
 simp only[Bool.not_eq_true',List.any_eq_false] at c
 have:=c w e
 have b:wr (s.places - 1)=s.places - 1:=zt (by unfold Fit;omega)
 simp[yH,wA,Ks,b] at this
 omega
theorem zSa (h:List Ob) {D:Mat} {n:Nat} (k:Sq n D):∃(L:List Ob) (out st:Nat) (ids:List (Nat × Nat)) (o:Nat),NoRes L/\TabAt (h++L) o out st ids D n:=by
 obtain ⟨M,e⟩:∃M,M=D.map λr=>Ob.row 3 1 (r.map zH) 0:=⟨_,rfl⟩
 obtain ⟨ids,c⟩:∃ids,ids=(List.range n).map λa=>(h.length+(2+a),0):=⟨_,rfl⟩
 refine ⟨.row 27 1 (ids.map Zt) 0:: .box 295 [.tl h.length 0]::M,h.length,0,ids,h.length+1,?_,zl (k:=1) rfl,zm rfl,by rw[c];simp,k,λa p d=>?_,?_⟩
 ·refine zg rfl (zg rfl λo g=>?_)
  rw[e] at g
  obtain ⟨r,_,rfl⟩:=List.mem_map.1 g
  rfl
 ·have f:a<n:=by
   have:=(List.getElem?_eq_some_iff.1 d).1
   rw[c] at this;simpa using this
  rw[c,List.getElem?_map,List.getElem?_range f] at d
  injection d with d
  subst d
  obtain ⟨r,i,j,l⟩:=QY k f
  simp only
  rw[zl rfl,show 2+a=a+1+1 by omega,List.getElem?_cons_succ,List.getElem?_cons_succ,e,List.getElem?_map,i,j]
  rfl
 ·rw[c,List.map_map]
  unfold List.Nodup
  rw[List.pairwise_map]
  refine List.Pairwise.imp (λ{a b} h=>?_) (List.nodup_range (n:=n))
  simpa using h
theorem QB {α:Type} {n:Nat} {f:Mat->α->Mat} (a:∀D x,Sq n D->Sq n (f D x)):∀(l:List α) (D:Mat),Sq n D->Sq n (l.foldl f D)
 | [],_,h=>h
 | x::l,D,h=>QB a l (f D x) (a D x h)
theorem wJa {n b y a:Nat} {D:Mat} (h:Sq n D):Sq n (XX b y a D):=by
 unfold XX
 split
 ·exact JV h _ _ _
 ·exact h
theorem wKa {n y a:Nat} {D:Mat} (h:Sq n D):Sq n (XY n y D a):=by
 unfold XY
 split
 ·exact h
 ·exact QB (λD x h=>wJa h) _ _ h
theorem wLa {n y:Nat} {D:Mat} (h:Sq n D):Sq n (Yc n D y):=QB (λD x h=>wKa h) _ _ h
theorem vda (s:Setup):Sq s.places.toNat (vK s):=
 QB (λD x h=>wLa h) _ _ (QB (λD w h=>JV (JV h _ _ _) _ _ _) _ _ (qxa _))
set_option maxHeartbeats 2000000 in
theorem c91 (h:List Ob) (s:Setup) (a:SA) (k:SIn h s a) (f:SFit s) (hs:zz s=true):
  ACalls Tryz.prog 233 [qh s a] h λr h'=>∃(L:List Ob) (out st:Nat) (ids:List (Nat × Nat)) (o:Nat),h'=h++L/\NoRes L/\r= .tl out st/\TabAt h' o out st ids (vK s) s.places.toNat:=by
 have hex:∃r h',(∃(L:List Ob) (out st:Nat) (ids:List (Nat × Nat)) (o:Nat),h'=h++L/\NoRes L/\r=AV.tl out st/\TabAt h' o out st ids (vK s) s.places.toNat)/\ResK h h':=by
  obtain ⟨L,out,st,ids,o,q1,q2⟩:=zSa h (vda s)
  exact ⟨_,_,⟨L,out,st,ids,o,rfl,q1,rfl,q2⟩,zT⟩
 obtain ⟨⟨p1,p2⟩,τ⟩:=wIa hs
 obtain ⟨n,hn⟩:∃n:Nat,n=s.places.toNat:=⟨_,rfl⟩
 have ι:s.places=(n:Int):=by omega
 have hnb:(n:Int)*25<=140737488355328:=by omega
 refine zf Tryz.f233 [.tmp 2] 109 rfl rfl rfl rfl rfl rfl (by decide) (hex) λB=>?_
 simp only[go_sem,k.w.one,k.e.one,k.c.one,k.g.one,k.r.one,k.t.one]
 refine zd (c16 _ s a (k.app _) f) ?_
 rintro _ h1 ⟨rfl,e2⟩
 subst e2
 obtain ⟨h0,P⟩:∃h0,h0=h++[Ob.box 30 (zr s a)]:=⟨_,rfl⟩
 have hl0:h0.length=h.length+1:=by rw[P];simp
 have h30:h0[h.length]? =some (.box 30 (zr s a)):=by rw[P];exact zm rfl
 have k0:SIn h0 s a:=by rw[P];exact k.app _
 have hP:(h++[Ob.box 30 (zr s a)])[h.length]? =some (.box 30 (zr s a)):=zm rfl
 simp only[go_sem,hs,Bool.not_true,ι,hnb,Int.toNat_natCast,Int.natCast_nonneg]
 refine zk (by decide) (λm T h'=>∃(i:Nat) (ids:List (Nat × Nat)),i<=n/\TabIn h0 h' (h.length+1) n i ids/\T 1= .ptr h.length 0/\T 3= .ptr (h.length+2) 0/\T 19=i64 n/\T 20=i64 i/\m=n - i) n
  ⟨0,[],by omega,⟨⟨_,by rw[P,List.append_assoc];rfl,zg rfl (zj rfl)⟩,by rw[zl (k:=1) rfl];rfl,by rw[zl (k:=2) rfl];rfl,rfl,λ_ _ q=>by simp at q,.nil⟩,by simp only[go_sem],by simp only[go_sem],by simp only[go_sem],by (simp only[go_sem]<;>rfl),rfl⟩ ?_
 rintro m T h' ⟨i,ids,hi,A,t1,t3,δ,γ,rfl⟩
 simp only[go_sem,δ,γ]
 refine ways (λe=>?_) (λe=>?_)
 ·have K:i<n:=dlt e
  have E:∀M,(h'++M)[h.length]? =some (.box 30 (zr s a)):=λM=>by
   obtain ⟨L,rfl,_⟩:=A.pre
   rw[List.append_assoc];exact zb h30
  have hbx:∀M,(h'++M)[h.length+2]? =some (.box 295 [.tl (h.length+1) 0]):=λM=>zb A.box
  have hrw:∀M,(h'++M)[h.length+1]? =some (.row 27 1 (ids.map Zt++List.replicate (n - i) [.v (.slice none 0 0)]) 0):=λM=>zb A.row
  have σ:(ids.map Zt++List.replicate (n - i) [AV.v (.slice none 0 0)]).length=n:=by simp[A.len];omega
  have hil:(i:Int)<(n:Int):=by omega
  simp only[go_sem]
  refine zp rfl [.res] 1 [(1,0,[]),(3,0,[]),(0,0,[]),(4,0,[]),(2,0,[]),(5,0,[0]),(6,0,[]),(7,0,[])] rfl (by decide) (by decide) ?_
  simp only[go_sem,t1,t3,δ,γ,hbx,hrw,E,ι]
  refine zd (JPa (h'++[Ob.row 3 1 [[i64 (-1)]] 0]) (.tl h'.length 0) (-1) n (yi (by rw[zm rfl];rfl)) (by omega) (by omega)) ?_
  rintro _ h4 ⟨L,id,st,rfl,n1,hid,rfl,ν⟩
  have hlen':h.length+2<h'.length:=(List.getElem?_eq_some_iff.1 A.box).1
  simp only[List.length_append,List.length_cons,List.length_nil] at hid
  obtain ⟨h5,I⟩:∃h5,h5=h'++[Ob.row 3 1 [[i64 (-1)]] 0]++L:=⟨_,rfl⟩
  have hp5:Pre h0 h5:=by rw[I];exact (A.pre.app (zj rfl)).app n1
  have b5:h5[h.length+2]? =some (.box 295 [.tl (h.length+1) 0]):=by rw[I,List.append_assoc];exact hbx _
  have r5:h5[h.length+1]? =some (.row 27 1 (ids.map Zt++List.replicate (n - i) [.v (.slice none 0 0)]) 0):=by rw[I,List.append_assoc];exact hrw _
  have at5:∀(a:Nat) (p:Nat × Nat),ids[a]? =some p->h5[p.1]? =some (.row 3 1 ((jWa n a).map zH) p.2):=λa p q=>by
   rw[I,List.append_assoc];exact zb (A.at_ a p q).2
  rw[<-I] at ν
  obtain ⟨R,hR⟩:∃R,R=ids.map Zt++List.replicate (n - i) [AV.v (.slice none 0 0)]:=⟨_,rfl⟩
  rw[<-hR] at r5 σ
  have hset:R.set i [.tl id st]=(ids++[(id,st)]).map Zt++List.replicate (n - (i+1)) [AV.v (.slice none 0 0)]:=by
   rw[hR,List.set_append_right _ _ (by simp[A.len])]
   simp only[List.length_map,A.len,Nat.sub_self,List.map_append,List.map_cons,List.map_nil]
   rw[show n - i=(n - (i+1))+1 by omega,List.replicate_succ]
   simp
  have rI:R[i]? =some [AV.v (.slice none 0 0)]:=by
   rw[hR,List.getElem?_append_right (by simp[A.len]),List.length_map,A.len,Nat.sub_self,List.getElem?_replicate,if_pos (by omega)]
  have s1:∀o,(h5.set (h.length+1) o)[h.length+1]? =some o:=λo=>zh r5
  have s2:∀o,(h5.set (h.length+1) o)[h.length+2]? =some (.box 295 [.tl (h.length+1) 0]):=λo=>by rw[List.getElem?_set_ne (by omega)];exact b5
  have s3:∀o,(h5.set (h.length+1) o)[id]? =some (.row 3 1 (List.replicate n [i64 (-1)]) st):=λo=>by rw[List.getElem?_set_ne (by omega)];exact ν
  have s4:(R.set i [.tl id st])[i]? =some [.tl id st]:=List.getElem?_set_self (by omega)
  have s5:(R.set i [.tl id st]).length=n:=by rw[List.length_set];exact σ
  have s7:(List.replicate n [i64 (-1)])[i]? =some [i64 (-1)]:=by rw[List.getElem?_replicate,if_pos K]
  have s6:(List.replicate n [i64 (-1)]).length=n:=List.length_replicate
  rw[<-I]
  simp only[go_sem,t3,γ,b5,r5,σ,hil,rI,s1,s2,s3,s4,s5,s6,s7,Int.toNat_natCast,Int.natCast_nonneg]
  have μ:∀(a:Nat) (p:Nat × Nat),ids[a]? =some p->p.1<h'.length:=λa p q=>(List.getElem?_eq_some_iff.1 (A.at_ a p q).2).1
  have hF:TabIn h0 ((h5.set (h.length+1) (.row 27 1 (R.set i [.tl id st]) 0)).set id (.row 3 1 ((List.replicate n [i64 (-1)]).set i [i64 0]) st)) (h.length+1) n (i+1) (ids++[(id,st)]):=by
   refine ⟨(hp5.set (by omega) rfl).set (by omega) rfl,?_,?_,by simp[A.len],λa p q=>?_,?_⟩
   ·rw[List.getElem?_set_ne (by omega),s1,hset]
   ·rw[List.getElem?_set_ne (by omega)];exact s2 _
   ·by_cases ha:a<i
    ·rw[List.getElem?_append_left (by rw[A.len];exact ha)] at q
     have h1:=A.at_ a p q
     have h2:=μ a p q
     exact ⟨h1.1,by rw[List.getElem?_set_ne (by omega),List.getElem?_set_ne (by omega)];exact at5 a p q⟩
    ·have hai:a=i:=by
      have:=(List.getElem?_eq_some_iff.1 q).1
      simp[A.len] at this
      omega
     subst hai
     rw[List.getElem?_append_right (by rw[A.len];exact Nat.le_refl _),A.len,Nat.sub_self] at q
     injection q with q
     subst q
     refine ⟨by simp only;omega,?_⟩
     rw[zh (s3 _)]
     simp[jWa,zH,List.map_set]
   ·rw[List.map_append,List.nodup_append]
    refine ⟨A.nd,by simp,λx hx y hy=>?_⟩
    obtain ⟨p,hp,rfl⟩:=List.mem_map.1 hx
    obtain ⟨a,ha⟩:=List.mem_iff_getElem?.1 hp
    have:=μ a p ha
    simp at hy
    omega
  exact ⟨n - (i+1),by omega,i+1,ids++[(id,st)],by omega,hF,t1,δ,zy (by omega) rfl,rfl⟩
 ·have hge:n<=i:=jd e
  have Q:i=n:=by omega
  subst Q
  have d:=A.full
  have l:=A.pre
  have V:∀(a:Nat) (p:Nat × Nat),ids[a]? =some p->h0.length<=p.1:=λa p q=>by have:=(A.at_ a p q).1;omega
  clear A hi
  have E:∀ {h':List Ob},Pre h0 h'->h'[h.length]? =some (.box 30 (zr s a)):=λ{h'} q=>by
   obtain ⟨L,rfl,_⟩:=q
   exact zb h30
  have G:=E l
  have hwr:∀ {h':List Ob},Pre h0 h'->SlOf h' a.w 3 (s.ways.map QI):=λ{h'} q=>(q.sin k0).w
  have N:=hwr l
  have q0:=l.sin k0
  simp only[go_sem,t1,t3,G,N.rows,N.one,q0.e.one,q0.c.one,q0.g.one,q0.r.one,q0.t.one,List.length_map]
  refine zk (by decide) (λm T h'=>∃(j:Nat),j<=s.ways.length/\Pre h0 h'/\TabAt h' (h.length+2) (h.length+1) 0 ids ((s.ways.take j).foldl zGa (yR i)) i/\T 1= .ptr h.length 0/\T 3= .ptr (h.length+2) 0/\T 5= .fn (.func 268) [] [.ptr (h.length+2) 0]/\T 39=a.w/\T 40=i64 s.ways.length/\T 41=i64 j/\m=s.ways.length - j) s.ways.length
   ⟨0,by omega,l,d,by simp only[go_sem,t1],by simp only[go_sem,t3],by simp only[go_sem],by simp only[go_sem],by simp only[go_sem],by (simp only[go_sem]<;>rfl),rfl⟩ ?_
  clear t1 t3 δ γ d l G N q0
  rintro m T h' ⟨j,hj,l,d,t1,t3,t5,t39,φ,β,rfl⟩
  have N:=hwr l
  simp only[go_sem,φ,β]
  refine ways (λe=>?_) (λe=>?_)
  ·have K:=dlt e
   have hee:=N.at (i:=j) (by simpa using K)
   have Z:(s.ways.map QI)[j]? =some (QI s.ways[j]):=by rw[List.getElem?_map,List.getElem?_eq_getElem K];rfl
   have hkl:(j:Int)<s.ways.length:=by omega
   have Q:=τ s.ways[j] (List.getElem_mem K)
   have H:(s.ways.take (j+1)).foldl zGa (yR i)=zGa ((s.ways.take j).foldl zGa (yR i)) s.ways[j]:=by
    rw[<-List.take_append_getElem K,List.foldl_append];rfl
   obtain ⟨w,hw⟩:∃w,w=s.ways[j]:=⟨_,rfl⟩
   rw[<-hw] at Z Q H
   obtain ⟨w1,w2,W⟩:=w
   simp only at Q
   obtain ⟨⟨i1,i2⟩,i3,i4⟩:=Q
   obtain ⟨S,rfl⟩:=Int.eq_ofNat_of_zero_le i1
   obtain ⟨U,rfl⟩:=Int.eq_ofNat_of_zero_le i3
   obtain ⟨D,hD⟩:∃D,D=(s.ways.take j).foldl zGa (yR i):=⟨_,rfl⟩
   rw[<-hD] at d H
   have ha:S<i:=by omega
   have hb:U<i:=by omega
   obtain ⟨pa,a1,a2,a3⟩:=d.ix ha
   obtain ⟨pb,b1,b2,b3⟩:=d.ix hb
   have hA:List.length (QI ((S:Int),(U:Int),W))=3:=rfl
   have hw3:QI ((S:Int),(U:Int),W)=[i64 S,i64 U,i64 W]:=rfl
   rw[hw3] at Z
   simp only[go_sem,t39,β,t5,hee,N.rows,Z,hkl,List.length_map,Int.toNat_natCast,Int.natCast_nonneg]
   refine zd (Zqa (h'++[Ob.box 205 [i64 S,i64 U,i64 W]]) (h.length+2) (h.length+1) 0 ids D i S U W pa (d.app _) ha hb a1) ?_
   rintro _ h4 ⟨rfl,rfl⟩
   have ζ:=(d.app [Ob.box 205 [i64 S,i64 U,i64 W]]).near (b:=U) (v:=W) a1 ha
   have g1:∀o,((h'++[Ob.box 205 [i64 S,i64 U,i64 W]]).set pa.1 o)[h'.length]? =some (.box 205 [i64 S,i64 U,i64 W]):=λo=>by
    rw[List.getElem?_set_ne (by omega),zm rfl];rfl
   simp only[go_sem,t5,g1]
   refine zd (Zqa _ (h.length+2) (h.length+1) 0 ids _ i U S W pb ζ hb ha b1) ?_
   rintro _ h4 ⟨rfl,rfl⟩
   have ht3:=ζ.near (b:=S) (v:=W) b1 hb
   simp only[go_sem,β]
   exact ⟨s.ways.length - (j+1),by omega,j+1,by omega,((l.app (zj rfl)).set (V _ _ a1) rfl).set (V _ _ b1) rfl,by rw[H];exact ht3,t1,t3,t5,t39,φ,zy (by have:=f.nw;omega) rfl,rfl⟩
  ·have hge2:=jd e
   have hj2:j=s.ways.length:=by omega
   subst hj2
   rw[List.take_length] at d
   obtain ⟨D0,hD0⟩:∃D0,D0=s.ways.foldl zGa (yR i):=⟨_,rfl⟩
   rw[<-hD0] at d
   have G:=E l
   simp only[go_sem,t1,t3,G,ι]
   refine zk (by decide) (λm T h'=>∃(y:Nat),y<=i/\Pre h0 h'/\TabAt h' (h.length+2) (h.length+1) 0 ids ((List.range y).foldl (Yc i) D0) i/\T 1= .ptr h.length 0/\T 3= .ptr (h.length+2) 0/\T 5= .fn (.func 268) [] [.ptr (h.length+2) 0]/\T 63=i64 i/\T 64=i64 y/\m=i - y) i
    ⟨0,by omega,l,d,by simp only[go_sem,t1],by simp only[go_sem,t3],by simp only[go_sem,t5],by simp only[go_sem],by (simp only[go_sem]<;>rfl),rfl⟩ ?_
   clear t1 t3 t5 t39 φ β d l G
   rintro m T h' ⟨y,hy,l,d,t1,t3,t5,z,u,rfl⟩
   simp only[go_sem,z,u]
   refine ways (λe=>?_) (λe=>?_)
   ·have O:y<i:=dlt e
    have hfy:(List.range (y+1)).foldl (Yc i) D0=Yc i ((List.range y).foldl (Yc i) D0) y:=by
     rw[List.range_succ,List.foldl_append];rfl
    obtain ⟨D1,hD1⟩:∃D1,D1=(List.range y).foldl (Yc i) D0:=⟨_,rfl⟩
    rw[<-hD1] at d hfy
    have G:=E l
    simp only[go_sem]
    refine XP (by decide) ?_
    simp only[go_sem,t1,G,ι]
    refine zk (by decide) (λm T h'=>∃(x:Nat),x<=i/\Pre h0 h'/\TabAt h' (h.length+2) (h.length+1) 0 ids ((List.range x).foldl (XY i y) D1) i/\T 1= .ptr h.length 0/\T 3= .ptr (h.length+2) 0/\T 5= .fn (.func 268) [] [.ptr (h.length+2) 0]/\T 63=i64 i/\T 64=i64 y/\T 8=i64 y/\T 68=i64 i/\T 69=i64 x/\m=i - x) i
     ⟨0,by omega,l,d,by simp only[go_sem,t1],by simp only[go_sem,t3],by simp only[go_sem,t5],by simp only[go_sem,z],by simp only[go_sem,u],by simp only[go_sem,u],by simp only[go_sem],by (simp only[go_sem]<;>rfl),rfl⟩ ?_
    clear t1 t3 t5 z u d l G
    rintro m T h' ⟨x,hx,l,d,t1,t3,t5,z,u,t8,F,C,rfl⟩
    simp only[go_sem,F,C]
    refine ways (λe=>?_) (λe=>?_)
    ·have J:x<i:=dlt e
     have ρ:(List.range (x+1)).foldl (XY i y) D1=XY i y ((List.range x).foldl (XY i y) D1) x:=by
      rw[List.range_succ,List.foldl_append];rfl
     obtain ⟨D2,hD2⟩:∃D2,D2=(List.range x).foldl (XY i y) D1:=⟨_,rfl⟩
     rw[<-hD2] at d ρ
     obtain ⟨px,x1,x2,x3⟩:=d.ix J
     obtain ⟨py,y1,y2,y3⟩:=d.ix O
     obtain ⟨X,X1,X2,X3⟩:=d.rd x1 J
     obtain ⟨Y,Y1,Y2,Y3⟩:=d.rd y1 O
     have θ:=X3 y O
     have bx:=d.box
     have rx:=d.row
     have lx:(x:Int)<(ids.length:Int):=by rw[d.len];omega
     have ly:(y:Int)<(ids.length:Int):=by rw[d.len];omega
     have lX:(y:Int)<(X.length:Int):=by rw[X2];omega
     simp only[go_sem,t3,t8,C,bx,rx,x2,X1,θ,lx,lX,List.length_map,Int.toNat_natCast,Int.natCast_nonneg]
     cases f1:jm D2 x y== -1
     ·have g1:¬ jm D2 x y= -1:=by simpa using f1
      simp only[go_sem,f1,t3,t8,bx,rx,y2,Y1,Y2,ly,List.length_map,Int.toNat_natCast,Int.natCast_nonneg]
      refine zk (by decide) (λm T h'=>∃(b:Nat),b<=i/\Pre h0 h'/\TabAt h' (h.length+2) (h.length+1) 0 ids ((List.range b).foldl (λD b=>XX b y x D) D2) i/\T 1= .ptr h.length 0/\T 3= .ptr (h.length+2) 0/\T 5= .fn (.func 268) [] [.ptr (h.length+2) 0]/\T 63=i64 i/\T 64=i64 y/\T 8=i64 y/\T 9=i64 x/\T 68=i64 i/\T 69=i64 x/\T 83= .tl py.1 py.2/\T 84=i64 i/\T 85=i64 b/\m=i - b) i
       ⟨0,by omega,l,d,by simp only[go_sem,t1],by simp only[go_sem,t3],by simp only[go_sem,t5],by simp only[go_sem,z],by simp only[go_sem,u],by simp only[go_sem,t8],by simp only[go_sem],by simp only[go_sem,F],by simp only[go_sem,C],by simp only[go_sem],by simp only[go_sem],by (simp only[go_sem]<;>rfl),rfl⟩ ?_
      clear t1 t3 t5 z u t8 F C d l bx rx X1 Y1 θ
      rintro m T h' ⟨b,hb,l,d,t1,t3,t5,z,u,t8,t9,F,C,ω,ξ,ε,rfl⟩
      simp only[go_sem,ξ,ε]
      refine ways (λe=>?_) (λe=>?_)
      ·have χ:b<i:=dlt e
       have ψ:(List.range (b+1)).foldl (λD b=>XX b y x D) D2=XX b y x ((List.range b).foldl (λD b=>XX b y x D) D2):=by
        rw[List.range_succ,List.foldl_append];rfl
       obtain ⟨D3,hD3⟩:∃D3,D3=(List.range b).foldl (λD b=>XX b y x D) D2:=⟨_,rfl⟩
       rw[<-hD3] at d ψ
       obtain ⟨X,X1,X2,X3⟩:=d.rd x1 J
       obtain ⟨Y,Y1,Y2,Y3⟩:=d.rd y1 O
       have θ:=X3 y O
       have hYb:=Y3 b χ
       have bx:=d.box
       have rx:=d.row
       have lX:(y:Int)<(X.length:Int):=by rw[X2];omega
       have lY:(b:Int)<(Y.length:Int):=by rw[Y2];omega
       simp only[go_sem,ω,ε,Y1,hYb,lY,List.length_map,Int.toNat_natCast,Int.natCast_nonneg]
       refine ways (λe2=>?_) (λe2=>?_)
       ·have g2:jm D3 y b≠ -1:=by simpa using e2
        simp only[go_sem,t3,t5,t8,t9,bx,rx,x2,X1,θ,lx,lX,List.length_map,Int.toNat_natCast,Int.natCast_nonneg]
        refine zd (Zqa _ (h.length+2) (h.length+1) 0 ids _ i x b _ px d J χ x1) ?_
        rintro _ h4 ⟨rfl,rfl⟩
        have ζ:=d.near (b:=b) (v:=wr (jm D3 x y+jm D3 y b)) x1 J
        simp only[go_sem,ε]
        exact ⟨i - (b+1),by omega,b+1,by omega,l.set (V _ _ x1) rfl,by rw[ψ];unfold XX;rw[if_pos g2];exact ζ,t1,t3,t5,z,u,t8,t9,F,C,ω,ξ,zy (by omega) rfl,rfl⟩
       ·have g2:¬ jm D3 y b≠ -1:=by simpa using e2
        simp only[go_sem,ε]
        exact ⟨i - (b+1),by omega,b+1,by omega,l,by rw[ψ];unfold XX;rw[if_neg g2];exact d,t1,t3,t5,z,u,t8,t9,F,C,ω,ξ,zy (by omega) rfl,rfl⟩
      ·have χ:i<=b:=jd e
       have hbe:b=i:=by omega
       subst hbe
       simp only[go_sem,C]
       exact ⟨b - (x+1),by omega,x+1,by omega,l,by rw[ρ];unfold XY;rw[if_neg g1];exact d,t1,t3,t5,z,u,t8,F,zy (by omega) rfl,rfl⟩
     ·have g1:jm D2 x y= -1:=by simpa using f1
      simp only[go_sem,f1,C]
      exact ⟨i - (x+1),by omega,x+1,by omega,l,by rw[ρ];unfold XY;rw[if_pos g1];exact d,t1,t3,t5,z,u,t8,F,zy (by omega) rfl,rfl⟩
    ·have J:i<=x:=jd e
     have hxe:x=i:=by omega
     subst hxe
     simp only[go_sem,u]
     exact ⟨x - (y+1),by omega,y+1,by omega,l,by rw[hfy];exact d,t1,t3,t5,z,zy (by omega) rfl,rfl⟩
   ·have O:i<=y:=jd e
    have hye:y=i:=by omega
    subst hye
    have bx:=d.box
    simp only[go_sem,t3,bx]
    have hlen0:h0=h++[Ob.box 30 (zr s a)]:=P
    have hpr:Pre h h':=by
     have:Pre h h0:=⟨_,P,zj rfl⟩
     exact this.trans l
    obtain ⟨L,rfl,hN⟩:=hpr
    refine ⟨.tl (h.length+1) 0,by simp only[go_sem],.inl ⟨L,h.length+1,0,ids,h.length+2,rfl,hN,rfl,?_⟩⟩
    have:vK s=(List.range y).foldl (Yc y) D0:=by
     unfold vK
     rw[<-hn,hD0]
    rw[this]
    exact d
end Go.Proofs.YtfmldcilgbbimaaGreat.Ax
