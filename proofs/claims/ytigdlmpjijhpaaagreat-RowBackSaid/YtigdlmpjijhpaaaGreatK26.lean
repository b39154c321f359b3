import Derived.Test.YtigdlmpjijhpaaaGreatKA
import Derived.Test.YtigdlmpjijhpaaaGreatK25
import Derived.Test.YtigdlmpjijhpaaaGreatK23
set_option linter.all false
namespace Go.Proofs.YtigdlmpjijhpaaaGreat.Ax
open Go Go.Proofs
set_option maxRecDepth 100000
attribute [go_sem] XGa Q0a y8a wja
abbrev Jv(p:Nat × Nat):List AV:=[.tl p.1 p.2]
theorem KQ{D:Mat}{a:Nat}(b:a<D.length)(r:List Int):(D.set a r).getD a []=r:=by
 rw[zG,zm b]
 rfl
structure TabAt (h:List Ob) (o out st:Nat) (ids:List (Nat × Nat)) (D:Mat) (n:Nat):Prop where
 box:h[o]? =some (.box 322 [.tl out st])
 row:h[out]? =some (.row 27 1 (ids.map Jv) st)
 len:ids.length=n
 sq:Sq n D
 at_:∀(a:Nat) (p:Nat × Nat),ids[a]? =some p->h[p.1]? =some (.row 3 1 ((D.getD a []).map qI) p.2)
 nd:(ids.map (·.1)).Nodup
theorem TabAt.app{h:List Ob}{o out st:Nat}{ids:List (Nat × Nat)}{D:Mat}{n:Nat}(k:TabAt h o out st ids D n)(M:List Ob):TabAt (h++M) o out st ids D n:=
 ⟨zf k.box,zf k.row,k.len,k.sq,λa p q=>zf (k.at_ a p q),k.nd⟩
theorem TabAt.set{h:List Ob}{o out st:Nat}{ids:List (Nat × Nat)}{D:Mat}{n:Nat}(k:TabAt h o out st ids D n){a:Nat}{p:Nat × Nat}(f:ids[a]? =some p)(r:List Int)(u:r.length=n)(i:a<n):TabAt (h.set p.1 (.row 3 1 (r.map qI) p.2)) o out st ids (D.set a r) n:=by
 have c:=k.at_ a p f
 have y:p.1≠o:=λq=>by rw[q,k.box] at c;cases c
 have m:p.1≠out:=λq=>by rw[q,k.row] at c;injection c with c;injection c with h1;cases h1
 refine⟨by rw[zc y];exact k.box,by rw[zc m];exact k.row,k.len,⟨by rw[zP];exact k.sq.1,λx l=>?_⟩,λb q d=>?_,k.nd⟩
 ·rcases List.mem_or_eq_of_mem_set l with l|rfl
  ·exact k.sq.2 x l
  ·exact u
 ·by_cases j:b=a
  ·subst j
   rw[f] at d;injection d with d;subst d
   rw[zq c,zG,zm (by rw[k.sq.1];exact i)]
   rfl
  ·have g:p.1≠q.1:=λe=>by
    have w:a<ids.length:=(zd.1 f).1
    have s:b<ids.length:=(zd.1 d).1
    have v:(ids.map (·.1))[a]? =some p.1:=by rw[zr,f];rfl
    have t:(ids.map (·.1))[b]? =some q.1:=by rw[zr,d];rfl
    have:=(List.getElem?_inj (by simpa using w) k.nd).1 (v.trans (by rw[t,e]))
    exact j this.symm
   rw[zc g,k.at_ b q d,zG,zG,zc (Ne.symm j)]
theorem ZVa{n:Nat}{D:Mat}(h:Sq n D){a b:Nat}{v:Int}(c:a<n):vA D a b v=D.set a ((vA D a b v).getD a []):=by
 obtain⟨r,e,d,f⟩:=Ki h c
 unfold vA
 split
 ·unfold QN
  rw[KQ (by rw[h.1];exact c)]
 ·rw[d]
  apply qD
  intro i
  by_cases hi:i=a
  ·subst hi;rw[e,zm (by rw[h.1];exact c)]
  ·rw[zc (Ne.symm hi)]
theorem ZWa{n:Nat}{D:Mat}(h:Sq n D){a b:Nat}{v:Int}(e:a<n):((vA D a b v).getD a []).length=n:=by
 obtain⟨r,f,c,d⟩:=Ki (Vi h a b v) e
 rw[c];exact d
theorem KLa(h:List Ob)(o out st:Nat)(ids:List (Nat × Nat))(D:Mat)(n a b:Nat)(v:Int)(p:Nat × Nat)(k:TabAt h o out st ids D n)(z:a<n)(H:b<n)(A:ids[a]? =some p):
  ACalls Tryz.prog 290 [i64 a,i64 b,i64 v,.ptr o 0] h λr h'=>r= .tup []/\h'=h.set p.1 (.row 3 1 (((vA D a b v).getD a []).map qI) p.2):=by
 obtain⟨r,G,C,F⟩:=Ki k.sq z
 have d:=k.at_ a p A
 have g:(ids.map Jv)[a]? =some [.tl p.1 p.2]:=by rw[zr,A];rfl
 have c:((D.getD a []).map qI)[b]? =some [i64 (xP D a b)]:=by
  unfold xP
  rw[C,zr,zh (by omega),zG,zh (by omega)]
  rfl
 have u:(a:Int)<(ids.length:Int):=by rw[k.len];omega
 have l2:(b:Int)<((D.getD a []).length:Int):=by rw[C,F];omega
 have f:((D.getD a []).map qI).set b [i64 v]=((QN D a b v).getD a []).map qI:=by
  unfold QN
  rw[KQ (by rw[k.sq.1];exact z),List.map_set]
  rfl
 obtain⟨m,l⟩:∃m,m=xP D a b:=⟨_,rfl⟩
 obtain⟨j,i⟩:∃j,j=(D.getD a []).map qI:=⟨_,rfl⟩
 have E:(D.getD a []).length=j.length:=by rw[i,zb]
 rw[<-i] at d c f
 rw[<-l] at c
 rw[E] at l2
 have w:=k.box
 have rx:=k.row
 refine zl Tryz.f290 [] 33 rfl rfl rfl rfl rfl rfl (by decide) (⟨_,_,⟨rfl,rfl⟩,qH d rfl⟩) λB=>?_
 simp only[go_sem,w,rx,g,d,c,u,l2,zb,Int.toNat_natCast,zg]
 cases t:m== -1
 ·have y:¬ xP D a b= -1:=by rw[<-l];simpa using t
  simp only[go_sem,t,qE,w,rx,g,d,c,u,l2,zb,Int.toNat_natCast,zg]
  refine ways (λe=>?_) (λe=>?_)
  ·have x:v<xP D a b:=by rw[<-l];simpa using e
   have s:vA D a b v=QN D a b v:=by unfold vA;rw[if_pos (.inr x)]
   simp only[go_sem,w,rx,g,d,c,u,l2,zb,Int.toNat_natCast,zg]
   rw[s, <-f]
   exact⟨.tup [],by simp only[go_sem],.inl ⟨rfl,rfl⟩⟩
  ·have x:¬ v<xP D a b:=by rw[<-l];simpa using e
   have s:vA D a b v=D:=by unfold vA;rw[if_neg (λq=>q.elim y x)]
   simp only[go_sem]
   rw[s, <-i,qX d]
   exact⟨.tup [],by simp only[go_sem],.inl ⟨rfl,rfl⟩⟩
 ·have y:xP D a b= -1:=by rw[<-l];simpa using t
  have s:vA D a b v=QN D a b v:=by unfold vA;rw[if_pos (.inl y)]
  simp only[go_sem,t,qE,w,rx,g,d,c,u,l2,zb,Int.toNat_natCast,zg]
  rw[s, <-f]
  exact⟨.tup [],by simp only[go_sem],.inl ⟨rfl,rfl⟩⟩
theorem TabAt.near{h:List Ob}{o out st:Nat}{ids:List (Nat × Nat)}{D:Mat}{n:Nat}(k:TabAt h o out st ids D n){a b:Nat}{v:Int}{p:Nat × Nat}(d:ids[a]? =some p)(c:a<n):TabAt (h.set p.1 (.row 3 1 (((vA D a b v).getD a []).map qI) p.2)) o out st ids (vA D a b v) n:=by
 have:=k.set d ((vA D a b v).getD a []) (ZWa k.sq c) c
 rwa[<-ZVa k.sq c] at this
theorem TabAt.rd{h:List Ob}{o out st:Nat}{ids:List (Nat × Nat)}{D:Mat}{n:Nat}(k:TabAt h o out st ids D n){a:Nat}{p:Nat × Nat}(f:ids[a]? =some p)(e:a<n):∃X,h[p.1]? =some (.row 3 1 X p.2)/\X.length=n/\∀b,b<n->X[b]? =some [i64 (xP D a b)]:=by
 obtain⟨r,g,c,d⟩:=Ki k.sq e
 refine⟨(D.getD a []).map qI,k.at_ a p f,by rw[zb,c,d],λb i=>?_⟩
 unfold xP
 rw[c,zr,zh (by omega),zG,zh (by omega)]
 rfl
theorem TabAt.ix{h:List Ob}{o out st:Nat}{ids:List (Nat × Nat)}{D:Mat}{n:Nat}(k:TabAt h o out st ids D n){a:Nat}(c:a<n):∃p,ids[a]? =some p/\(ids.map Jv)[a]? =some [.tl p.1 p.2]/\p.1<h.length:=by
 have d:a<ids.length:=by rw[k.len];exact c
 have b:ids[a]? =some ids[a]:=zh d
 exact⟨ids[a],b,by rw[zr,b];rfl,(zd.1 (k.at_ a _ b)).1⟩
structure TabIn (h0 h:List Ob) (out n i:Nat) (ids:List (Nat × Nat)):Prop where
 pre:Pre h0 h
 row:h[out]? =some (.row 27 1 (ids.map Jv++List.replicate (n - i) [.v (.slice none 0 0)]) 0)
 box:h[out+1]? =some (.box 322 [.tl out 0])
 len:ids.length=i
 at_:∀(a:Nat) (p:Nat × Nat),ids[a]? =some p->out+2<=p.1/\h[p.1]? =some (.row 3 1 ((wAa n a).map qI) p.2)
 nd:(ids.map (·.1)).Nodup
theorem ZXa{n a:Nat}(b:a<n):(QO n).getD a []=wAa n a:=by
 unfold QO
 rw[zG,zr,List.getElem?_range b]
 rfl
theorem TabIn.full{h0 h:List Ob}{out n:Nat}{ids:List (Nat × Nat)}(k:TabIn h0 h out n n ids):TabAt h (out+1) out 0 ids (QO n) n:=by
 refine⟨k.box,by have:=k.row;rw[Nat.sub_self] at this;simpa using this,k.len,k4a n,λa p q=>?_,k.nd⟩
 have b:a<n:=by rw[<-k.len];exact(zd.1 q).1
 rw[ZXa b]
 exact(k.at_ a p q).2
theorem JEa{s:Setup}(b:qo s=true):(1<=s.places/\s.places<=16)/\∀w∈s.ways,(0<=w.1/\w.1<s.places)/\(0<=w.2.1/\w.2.1<s.places):=by
 simp only[qo,yG,zj] at b
 have e:=Zx b.1.1.1.1.1
 refine⟨e,λw d=>?_⟩
 have c:=b.1.1.1.2
 simp only[Bool.not_eq_true',List.any_eq_false] at c
 have:=c w d
 have a:wr (s.places - 1)=s.places - 1:=qb (by unfold Fit;omega)
 simp[QD,Zu,Yb,a] at this
 omega
theorem kka(h:List Ob){D:Mat}{n:Nat}(k:Sq n D):∃(L:List Ob) (out st:Nat) (ids:List (Nat × Nat)) (o:Nat),NoRes L/\TabAt (h++L) o out st ids D n:=by
 obtain⟨M,e⟩:∃M,M=D.map λr=>Ob.row 3 1 (r.map qI) 0:=⟨_,rfl⟩
 obtain⟨ids,c⟩:∃ids,ids=(List.range n).map λa=>(h.length+(2+a),0):=⟨_,rfl⟩
 refine⟨.row 27 1 (ids.map Jv) 0:: .box 322 [.tl h.length 0]::M,h.length,0,ids,h.length+1,?_,zN (k:=1) rfl,zM rfl,by rw[c];simp,k,λa p d=>?_,?_⟩
 ·refine zp rfl (zp rfl λo g=>?_)
  rw[e] at g
  obtain⟨r,_,rfl⟩:=zx.1 g
  rfl
 ·have f:a<n:=by
   have:=(zd.1 d).1
   rw[c] at this;simpa using this
  rw[c,zr,List.getElem?_range f] at d
  injection d with d
  subst d
  obtain⟨r,j,i,l⟩:=Ki k f
  simp only
  rw[zN rfl,show 2+a=a+1+1 by omega,List.getElem?_cons_succ,List.getElem?_cons_succ,e,zr,j,i]
  rfl
 ·rw[c,yq]
  unfold List.Nodup
  rw[List.pairwise_map]
  refine List.Pairwise.imp (λ{a b} h=>?_) (List.nodup_range (n:=n))
  simpa using h
theorem XM{α:Type}{n:Nat}{f:Mat->α->Mat}(a:∀D x,Sq n D->Sq n (f D x)):∀(l:List α) (D:Mat),Sq n D->Sq n (l.foldl f D)
 | [],_,h=>h
 | x::l,D,h=>XM a l (f D x) (a D x h)
theorem JFa{n b y a:Nat}{D:Mat}(h:Sq n D):Sq n (Wr b y a D):=by
 unfold Wr
 split
 ·exact Vi h _ _ _
 ·exact h
theorem JGa{n y a:Nat}{D:Mat}(h:Sq n D):Sq n (Ws n y D a):=by
 unfold Ws
 split
 ·exact h
 ·exact XM (λD x h=>JFa h) _ _ h
theorem JHa{n y:Nat}{D:Mat}(h:Sq n D):Sq n (jia n D y):=XM (λD x h=>JGa h) _ _ h
theorem ZYa(s:Setup):Sq s.places.toNat (yN s):=
 XM (λD x h=>JHa h) _ _ (XM (λD w h=>Vi (Vi h _ _ _) _ _ _) _ _ (k4a _))
set_option maxHeartbeats 2000000 in
theorem c91(h:List Ob)(s:Setup)(a:SA)(k:SIn h s a)(f:SFit s)(hs:qo s=true):
  ACalls Tryz.prog 255 [jm s a] h λr h'=>∃(L:List Ob) (out st:Nat) (ids:List (Nat × Nat)) (o:Nat),h'=h++L/\NoRes L/\r= .tl out st/\TabAt h' o out st ids (yN s) s.places.toNat:=by
 have hex:∃r h',(∃(L:List Ob) (out st:Nat) (ids:List (Nat × Nat)) (o:Nat),h'=h++L/\NoRes L/\r=AV.tl out st/\TabAt h' o out st ids (yN s) s.places.toNat)/\ResK h h':=by
  obtain⟨L,out,st,ids,o,q1,q2⟩:=kka h (ZYa s)
  exact⟨_,_,⟨L,out,st,ids,o,rfl,q1,rfl,q2⟩,q8⟩
 obtain⟨⟨p1,p2⟩,σ⟩:=JEa hs
 obtain⟨n,hn⟩:∃n:Nat,n=s.places.toNat:=⟨_,rfl⟩
 have β:s.places=(n:Int):=by omega
 have hnb:(n:Int)*25<=140737488355328:=by omega
 refine zl Tryz.f255 [.tmp 2] 109 rfl rfl rfl rfl rfl rfl (by decide) (hex) λB=>?_
 simp only[go_sem,k.w.one,k.e.one,k.c.one,k.g.one,k.r.one,k.t.one]
 refine zi (c16 _ s a (k.app _) f) ?_
 rintro _ h1 ⟨rfl,e2⟩
 subst e2
 obtain⟨h0,K⟩:∃h0,h0=h++[Ob.box 30 (qa s a)]:=⟨_,rfl⟩
 have hl0:h0.length=h.length+1:=by rw[K];simp
 have h30:h0[h.length]? =some (.box 30 (qa s a)):=by rw[K];exact zM rfl
 have k0:SIn h0 s a:=by rw[K];exact k.app _
 have hP:(h++[Ob.box 30 (qa s a)])[h.length]? =some (.box 30 (qa s a)):=zM rfl
 simp only[go_sem,hs,Bool.not_true,β,hnb,Int.toNat_natCast,zg]
 refine zO (by decide) (λm T h'=>∃(i:Nat) (ids:List (Nat × Nat)),i<=n/\TabIn h0 h' (h.length+1) n i ids/\T 1= .ptr h.length 0/\T 3= .ptr (h.length+2) 0/\T 19=i64 n/\T 20=i64 i/\m=n - i) n
  ⟨0,[],by omega,⟨⟨_,by rw[K,zn];rfl,zp rfl (zF rfl)⟩,by rw[zN (k:=1) rfl];rfl,by rw[zN (k:=2) rfl];rfl,rfl,λ_ _ q=>by simp at q,.nil⟩,by simp only[go_sem],by simp only[go_sem],by simp only[go_sem],by(simp only[go_sem]<;>rfl),rfl⟩ ?_
 rintro m T h' ⟨i,ids,hi,A,t1,t3,θ,γ,rfl⟩
 simp only[go_sem,θ,γ]
 refine ways (λe=>?_) (λe=>?_)
 ·have I:i<n:=dlt e
  have E:∀M,(h'++M)[h.length]? =some (.box 30 (qa s a)):=λM=>by
   obtain⟨L,rfl,_⟩:=A.pre
   rw[zn];exact zf h30
  have hbx:∀M,(h'++M)[h.length+2]? =some (.box 322 [.tl (h.length+1) 0]):=λM=>zf A.box
  have hrw:∀M,(h'++M)[h.length+1]? =some (.row 27 1 (ids.map Jv++List.replicate (n - i) [.v (.slice none 0 0)]) 0):=λM=>zf A.row
  have ξ:(ids.map Jv++List.replicate (n - i) [AV.v (.slice none 0 0)]).length=n:=by simp[A.len];omega
  have hil:(i:Int)<(n:Int):=by omega
  simp only[go_sem]
  refine zV rfl [.res] 1 [(1,0,[]),(3,0,[]),(0,0,[]),(4,0,[]),(2,0,[]),(5,0,[0]),(6,0,[]),(7,0,[])] rfl (by decide) (by decide) ?_
  simp only[go_sem,t1,t3,θ,γ,hbx,hrw,E,β]
  refine zi (Yya (h'++[Ob.row 3 1 [[i64 (-1)]] 0]) (.tl h'.length 0) (-1) n (vM (by rw[zM rfl];rfl)) (by omega) (by omega)) ?_
  rintro _ h4 ⟨L,id,st,rfl,n1,hid,rfl,μ⟩
  have hlen':h.length+2<h'.length:=(zd.1 A.box).1
  simp only[ze,List.length_cons,List.length_nil] at hid
  obtain⟨h5,J⟩:∃h5,h5=h'++[Ob.row 3 1 [[i64 (-1)]] 0]++L:=⟨_,rfl⟩
  have hp5:Pre h0 h5:=by rw[J];exact(A.pre.app (zF rfl)).app n1
  have b5:h5[h.length+2]? =some (.box 322 [.tl (h.length+1) 0]):=by rw[J,zn];exact hbx _
  have r5:h5[h.length+1]? =some (.row 27 1 (ids.map Jv++List.replicate (n - i) [.v (.slice none 0 0)]) 0):=by rw[J,zn];exact hrw _
  have at5:∀(a:Nat) (p:Nat × Nat),ids[a]? =some p->h5[p.1]? =some (.row 3 1 ((wAa n a).map qI) p.2):=λa p q=>by
   rw[J,zn];exact zf (A.at_ a p q).2
  rw[<-J] at μ
  obtain⟨R,hR⟩:∃R,R=ids.map Jv++List.replicate (n - i) [AV.v (.slice none 0 0)]:=⟨_,rfl⟩
  rw[<-hR] at r5 ξ
  have hset:R.set i [.tl id st]=(ids++[(id,st)]).map Jv++List.replicate (n - (i+1)) [AV.v (.slice none 0 0)]:=by
   rw[hR,zR _ _ (by simp[A.len])]
   simp only[zb,A.len,Nat.sub_self,zy,List.map_cons,List.map_nil]
   rw[show n - i=(n - (i+1))+1 by omega,List.replicate_succ]
   simp
  have rI:R[i]? =some [AV.v (.slice none 0 0)]:=by
   rw[hR,zI (by simp[A.len]),zb,A.len,Nat.sub_self,List.getElem?_replicate,if_pos (by omega)]
  have s1:∀o,(h5.set (h.length+1) o)[h.length+1]? =some o:=λo=>zq r5
  have s2:∀o,(h5.set (h.length+1) o)[h.length+2]? =some (.box 322 [.tl (h.length+1) 0]):=λo=>by rw[zc (by omega)];exact b5
  have s3:∀o,(h5.set (h.length+1) o)[id]? =some (.row 3 1 (List.replicate n [i64 (-1)]) st):=λo=>by rw[zc (by omega)];exact μ
  have s4:(R.set i [.tl id st])[i]? =some [.tl id st]:=zm (by omega)
  have s5:(R.set i [.tl id st]).length=n:=by rw[zP];exact ξ
  have s7:(List.replicate n [i64 (-1)])[i]? =some [i64 (-1)]:=by rw[List.getElem?_replicate,if_pos I]
  have s6:(List.replicate n [i64 (-1)]).length=n:=qY
  rw[<-J]
  simp only[go_sem,t3,γ,b5,r5,ξ,hil,rI,s1,s2,s3,s4,s5,s6,s7,Int.toNat_natCast,zg]
  have κ:∀(a:Nat) (p:Nat × Nat),ids[a]? =some p->p.1<h'.length:=λa p q=>(zd.1 (A.at_ a p q).2).1
  have hF:TabIn h0 ((h5.set (h.length+1) (.row 27 1 (R.set i [.tl id st]) 0)).set id (.row 3 1 ((List.replicate n [i64 (-1)]).set i [i64 0]) st)) (h.length+1) n (i+1) (ids++[(id,st)]):=by
   refine⟨(hp5.set (by omega) rfl).set (by omega) rfl,?_,?_,by simp[A.len],λa p q=>?_,?_⟩
   ·rw[zc (by omega),s1,hset]
   ·rw[zc (by omega)];exact s2 _
   ·by_cases ha:a<i
    ·rw[zC (by rw[A.len];exact ha)] at q
     have h1:=A.at_ a p q
     have h2:=κ a p q
     exact⟨h1.1,by rw[zc (by omega),zc (by omega)];exact at5 a p q⟩
    ·have hai:a=i:=by
      have:=(zd.1 q).1
      simp[A.len] at this
      omega
     subst hai
     rw[zI (by rw[A.len];exact zo _),A.len,Nat.sub_self] at q
     injection q with q
     subst q
     refine⟨by simp only;omega,?_⟩
     rw[zq (s3 _)]
     simp[wAa,qI,List.map_set]
   ·rw[zy,List.nodup_append]
    refine⟨A.nd,by simp,λx hx y hy=>?_⟩
    obtain⟨p,hp,rfl⟩:=zx.1 hx
    obtain⟨a,ha⟩:=List.mem_iff_getElem?.1 hp
    have:=κ a p ha
    simp at hy
    omega
  exact⟨n - (i+1),by omega,i+1,ids++[(id,st)],by omega,hF,t1,θ,qc (by omega) rfl,rfl⟩
 ·have hge:n<=i:=xc e
  have Q:i=n:=by omega
  subst Q
  have d:=A.full
  have l:=A.pre
  have Z:∀(a:Nat) (p:Nat × Nat),ids[a]? =some p->h0.length<=p.1:=λa p q=>by have:=(A.at_ a p q).1;omega
  clear A hi
  have E:∀ {h':List Ob},Pre h0 h'->h'[h.length]? =some (.box 30 (qa s a)):=λ{h'} q=>by
   obtain⟨L,rfl,_⟩:=q
   exact zf h30
  have F:=E l
  have hwr:∀ {h':List Ob},Pre h0 h'->SlOf h' a.w 3 (s.ways.map X5):=λ{h'} q=>(q.sin k0).w
  have N:=hwr l
  have q0:=l.sin k0
  simp only[go_sem,t1,t3,F,N.rows,N.one,q0.e.one,q0.c.one,q0.g.one,q0.r.one,q0.t.one,zb]
  refine zO (by decide) (λm T h'=>∃(j:Nat),j<=s.ways.length/\Pre h0 h'/\TabAt h' (h.length+2) (h.length+1) 0 ids ((s.ways.take j).foldl x7a (QO i)) i/\T 1= .ptr h.length 0/\T 3= .ptr (h.length+2) 0/\T 5= .fn (.func 290) [] [.ptr (h.length+2) 0]/\T 39=a.w/\T 40=i64 s.ways.length/\T 41=i64 j/\m=s.ways.length - j) s.ways.length
   ⟨0,by omega,l,d,by simp only[go_sem,t1],by simp only[go_sem,t3],by simp only[go_sem],by simp only[go_sem],by simp only[go_sem],by(simp only[go_sem]<;>rfl),rfl⟩ ?_
  clear t1 t3 θ γ d l F N q0
  rintro m T h' ⟨j,hj,l,d,t1,t3,t5,t39,τ,ζ,rfl⟩
  have N:=hwr l
  simp only[go_sem,τ,ζ]
  refine ways (λe=>?_) (λe=>?_)
  ·have I:=dlt e
   have hee:=N.at (i:=j) (by simpa using I)
   have W:(s.ways.map X5)[j]? =some (X5 s.ways[j]):=by rw[zr,zh I];rfl
   have hkl:(j:Int)<s.ways.length:=by omega
   have Q:=σ s.ways[j] (zw I)
   have H:(s.ways.take (j+1)).foldl x7a (QO i)=x7a ((s.ways.take j).foldl x7a (QO i)) s.ways[j]:=by
    rw[<-zD I,jb];rfl
   obtain⟨w,hw⟩:∃w,w=s.ways[j]:=⟨_,rfl⟩
   rw[<-hw] at W Q H
   obtain⟨w1,w2,U⟩:=w
   simp only at Q
   obtain⟨⟨i1,i2⟩,i3,i4⟩:=Q
   obtain⟨S,rfl⟩:=Int.eq_ofNat_of_zero_le i1
   obtain⟨V,rfl⟩:=Int.eq_ofNat_of_zero_le i3
   obtain⟨D,hD⟩:∃D,D=(s.ways.take j).foldl x7a (QO i):=⟨_,rfl⟩
   rw[<-hD] at d H
   have ha:S<i:=by omega
   have hb:V<i:=by omega
   obtain⟨pa,a1,a2,a3⟩:=d.ix ha
   obtain⟨pb,b1,b2,b3⟩:=d.ix hb
   have hA:List.length (X5 ((S:Int),(V:Int),U))=3:=rfl
   have hw3:X5 ((S:Int),(V:Int),U)=[i64 S,i64 V,i64 U]:=rfl
   rw[hw3] at W
   simp only[go_sem,t39,ζ,t5,hee,N.rows,W,hkl,zb,Int.toNat_natCast,zg]
   refine zi (KLa (h'++[Ob.box 225 [i64 S,i64 V,i64 U]]) (h.length+2) (h.length+1) 0 ids D i S V U pa (d.app _) ha hb a1) ?_
   rintro _ h4 ⟨rfl,rfl⟩
   have η:=(d.app [Ob.box 225 [i64 S,i64 V,i64 U]]).near (b:=V) (v:=U) a1 ha
   have g1:∀o,((h'++[Ob.box 225 [i64 S,i64 V,i64 U]]).set pa.1 o)[h'.length]? =some (.box 225 [i64 S,i64 V,i64 U]):=λo=>by
    rw[zc (by omega),zM rfl];rfl
   simp only[go_sem,t5,g1]
   refine zi (KLa _ (h.length+2) (h.length+1) 0 ids _ i V S U pb η hb ha b1) ?_
   rintro _ h4 ⟨rfl,rfl⟩
   have ht3:=η.near (b:=S) (v:=U) b1 hb
   simp only[go_sem,ζ]
   exact⟨s.ways.length - (j+1),by omega,j+1,by omega,((l.app (zF rfl)).set (Z _ _ a1) rfl).set (Z _ _ b1) rfl,by rw[H];exact ht3,t1,t3,t5,t39,τ,qc (by have:=f.nw;omega) rfl,rfl⟩
  ·have hge2:=xc e
   have hj2:j=s.ways.length:=by omega
   subst hj2
   rw[zY] at d
   obtain⟨D0,hD0⟩:∃D0,D0=s.ways.foldl x7a (QO i):=⟨_,rfl⟩
   rw[<-hD0] at d
   have F:=E l
   simp only[go_sem,t1,t3,F,β]
   refine zO (by decide) (λm T h'=>∃(y:Nat),y<=i/\Pre h0 h'/\TabAt h' (h.length+2) (h.length+1) 0 ids ((List.range y).foldl (jia i) D0) i/\T 1= .ptr h.length 0/\T 3= .ptr (h.length+2) 0/\T 5= .fn (.func 290) [] [.ptr (h.length+2) 0]/\T 63=i64 i/\T 64=i64 y/\m=i - y) i
    ⟨0,by omega,l,d,by simp only[go_sem,t1],by simp only[go_sem,t3],by simp only[go_sem,t5],by simp only[go_sem],by(simp only[go_sem]<;>rfl),rfl⟩ ?_
   clear t1 t3 t5 t39 τ ζ d l F
   rintro m T h' ⟨y,hy,l,d,t1,t3,t5,z,u,rfl⟩
   simp only[go_sem,z,u]
   refine ways (λe=>?_) (λe=>?_)
   ·have P:y<i:=dlt e
    have hfy:(List.range (y+1)).foldl (jia i) D0=jia i ((List.range y).foldl (jia i) D0) y:=by
     rw[List.range_succ,jb];rfl
    obtain⟨D1,hD1⟩:∃D1,D1=(List.range y).foldl (jia i) D0:=⟨_,rfl⟩
    rw[<-hD1] at d hfy
    have F:=E l
    simp only[go_sem]
    refine VR (by decide) ?_
    simp only[go_sem,t1,F,β]
    refine zO (by decide) (λm T h'=>∃(x:Nat),x<=i/\Pre h0 h'/\TabAt h' (h.length+2) (h.length+1) 0 ids ((List.range x).foldl (Ws i y) D1) i/\T 1= .ptr h.length 0/\T 3= .ptr (h.length+2) 0/\T 5= .fn (.func 290) [] [.ptr (h.length+2) 0]/\T 63=i64 i/\T 64=i64 y/\T 8=i64 y/\T 68=i64 i/\T 69=i64 x/\m=i - x) i
     ⟨0,by omega,l,d,by simp only[go_sem,t1],by simp only[go_sem,t3],by simp only[go_sem,t5],by simp only[go_sem,z],by simp only[go_sem,u],by simp only[go_sem,u],by simp only[go_sem],by(simp only[go_sem]<;>rfl),rfl⟩ ?_
    clear t1 t3 t5 z u d l F
    rintro m T h' ⟨x,hx,l,d,t1,t3,t5,z,u,t8,G,C,rfl⟩
    simp only[go_sem,G,C]
    refine ways (λe=>?_) (λe=>?_)
    ·have O:x<i:=dlt e
     have υ:(List.range (x+1)).foldl (Ws i y) D1=Ws i y ((List.range x).foldl (Ws i y) D1) x:=by
      rw[List.range_succ,jb];rfl
     obtain⟨D2,hD2⟩:∃D2,D2=(List.range x).foldl (Ws i y) D1:=⟨_,rfl⟩
     rw[<-hD2] at d υ
     obtain⟨px,x1,x2,x3⟩:=d.ix O
     obtain⟨py,y1,y2,y3⟩:=d.ix P
     obtain⟨X,X1,X2,X3⟩:=d.rd x1 O
     obtain⟨Y,Y1,Y2,Y3⟩:=d.rd y1 P
     have ε:=X3 y P
     have bx:=d.box
     have rx:=d.row
     have lx:(x:Int)<(ids.length:Int):=by rw[d.len];omega
     have ly:(y:Int)<(ids.length:Int):=by rw[d.len];omega
     have lX:(y:Int)<(X.length:Int):=by rw[X2];omega
     simp only[go_sem,t3,t8,C,bx,rx,x2,X1,ε,lx,lX,zb,Int.toNat_natCast,zg]
     cases f1:xP D2 x y== -1
     ·have g1:¬ xP D2 x y= -1:=by simpa using f1
      simp only[go_sem,f1,t3,t8,bx,rx,y2,Y1,Y2,ly,zb,Int.toNat_natCast,zg]
      refine zO (by decide) (λm T h'=>∃(b:Nat),b<=i/\Pre h0 h'/\TabAt h' (h.length+2) (h.length+1) 0 ids ((List.range b).foldl (λD b=>Wr b y x D) D2) i/\T 1= .ptr h.length 0/\T 3= .ptr (h.length+2) 0/\T 5= .fn (.func 290) [] [.ptr (h.length+2) 0]/\T 63=i64 i/\T 64=i64 y/\T 8=i64 y/\T 9=i64 x/\T 68=i64 i/\T 69=i64 x/\T 83= .tl py.1 py.2/\T 84=i64 i/\T 85=i64 b/\m=i - b) i
       ⟨0,by omega,l,d,by simp only[go_sem,t1],by simp only[go_sem,t3],by simp only[go_sem,t5],by simp only[go_sem,z],by simp only[go_sem,u],by simp only[go_sem,t8],by simp only[go_sem],by simp only[go_sem,G],by simp only[go_sem,C],by simp only[go_sem],by simp only[go_sem],by(simp only[go_sem]<;>rfl),rfl⟩ ?_
      clear t1 t3 t5 z u t8 G C d l bx rx X1 Y1 ε
      rintro m T h' ⟨b,hb,l,d,t1,t3,t5,z,u,t8,t9,G,C,φ,ψ,ι,rfl⟩
      simp only[go_sem,ψ,ι]
      refine ways (λe=>?_) (λe=>?_)
      ·have ρ:b<i:=dlt e
       have χ:(List.range (b+1)).foldl (λD b=>Wr b y x D) D2=Wr b y x ((List.range b).foldl (λD b=>Wr b y x D) D2):=by
        rw[List.range_succ,jb];rfl
       obtain⟨D3,hD3⟩:∃D3,D3=(List.range b).foldl (λD b=>Wr b y x D) D2:=⟨_,rfl⟩
       rw[<-hD3] at d χ
       obtain⟨X,X1,X2,X3⟩:=d.rd x1 O
       obtain⟨Y,Y1,Y2,Y3⟩:=d.rd y1 P
       have ε:=X3 y P
       have hYb:=Y3 b ρ
       have bx:=d.box
       have rx:=d.row
       have lX:(y:Int)<(X.length:Int):=by rw[X2];omega
       have lY:(b:Int)<(Y.length:Int):=by rw[Y2];omega
       simp only[go_sem,φ,ι,Y1,hYb,lY,zb,Int.toNat_natCast,zg]
       refine ways (λe2=>?_) (λe2=>?_)
       ·have g2:xP D3 y b≠ -1:=by simpa using e2
        simp only[go_sem,t3,t5,t8,t9,bx,rx,x2,X1,ε,lx,lX,zb,Int.toNat_natCast,zg]
        refine zi (KLa _ (h.length+2) (h.length+1) 0 ids _ i x b _ px d O ρ x1) ?_
        rintro _ h4 ⟨rfl,rfl⟩
        have η:=d.near (b:=b) (v:=wr (xP D3 x y+xP D3 y b)) x1 O
        simp only[go_sem,ι]
        exact⟨i - (b+1),by omega,b+1,by omega,l.set (Z _ _ x1) rfl,by rw[χ];unfold Wr;rw[if_pos g2];exact η,t1,t3,t5,z,u,t8,t9,G,C,φ,ψ,qc (by omega) rfl,rfl⟩
       ·have g2:¬ xP D3 y b≠ -1:=by simpa using e2
        simp only[go_sem,ι]
        exact⟨i - (b+1),by omega,b+1,by omega,l,by rw[χ];unfold Wr;rw[if_neg g2];exact d,t1,t3,t5,z,u,t8,t9,G,C,φ,ψ,qc (by omega) rfl,rfl⟩
      ·have ρ:i<=b:=xc e
       have hbe:b=i:=by omega
       subst hbe
       simp only[go_sem,C]
       exact⟨b - (x+1),by omega,x+1,by omega,l,by rw[υ];unfold Ws;rw[if_neg g1];exact d,t1,t3,t5,z,u,t8,G,qc (by omega) rfl,rfl⟩
     ·have g1:xP D2 x y= -1:=by simpa using f1
      simp only[go_sem,f1,C]
      exact⟨i - (x+1),by omega,x+1,by omega,l,by rw[υ];unfold Ws;rw[if_pos g1];exact d,t1,t3,t5,z,u,t8,G,qc (by omega) rfl,rfl⟩
    ·have O:i<=x:=xc e
     have hxe:x=i:=by omega
     subst hxe
     simp only[go_sem,u]
     exact⟨x - (y+1),by omega,y+1,by omega,l,by rw[hfy];exact d,t1,t3,t5,z,qc (by omega) rfl,rfl⟩
   ·have P:i<=y:=xc e
    have hye:y=i:=by omega
    subst hye
    have bx:=d.box
    simp only[go_sem,t3,bx]
    have hlen0:h0=h++[Ob.box 30 (qa s a)]:=K
    have hpr:Pre h h':=by
     have:Pre h h0:=⟨_,K,zF rfl⟩
     exact this.trans l
    obtain⟨L,rfl,hN⟩:=hpr
    refine⟨.tl (h.length+1) 0,by simp only[go_sem],.inl ⟨L,h.length+1,0,ids,h.length+2,rfl,hN,rfl,?_⟩⟩
    have:yN s=(List.range y).foldl (jia y) D0:=by
     unfold yN
     rw[<-hn,hD0]
    rw[this]
    exact d
