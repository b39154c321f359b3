import Derived.Test.YtigdlmpjijhpaaaGreatKA
import Derived.Test.YtigdlmpjijhpaaaGreatK25
import Derived.Test.YtigdlmpjijhpaaaGreatK23
set_option linter.all false
namespace Go.Proofs.YtigdlmpjijhpaaaGreat.Ax
open Go Go.Proofs
set_option maxRecDepth 100000
attribute [go_sem] Yla K7a Jra Zwa
abbrev XY(p:Nat × Nat):List AV:=[.tl p.1 p.2]
theorem WH{D:Mat}{a:Nat}(b:a<D.length)(r:List Int):(D.set a r).getD a []=r:=by
 rw[zZ,zo b]
 rfl
structure TabAt (h:List Ob) (o out st:Nat) (ids:List (Nat × Nat)) (D:Mat) (n:Nat):Prop where
 box:h[o]? =some (.box 322 [.tl out st])
 row:h[out]? =some (.row 27 1 (ids.map XY) st)
 len:ids.length=n
 sq:Sq n D
 at_:∀(a:Nat) (p:Nat × Nat),ids[a]? =some p->h[p.1]? =some (.row 3 1 ((D.getD a []).map qz) p.2)
 nd:(ids.map (·.1)).Nodup
theorem TabAt.app{h:List Ob}{o out st:Nat}{ids:List (Nat × Nat)}{D:Mat}{n:Nat}(k:TabAt h o out st ids D n)(M:List Ob):TabAt (h++M) o out st ids D n:=
 ⟨ze k.box,ze k.row,k.len,k.sq,λa p q=>ze (k.at_ a p q),k.nd⟩
theorem TabAt.set{h:List Ob}{o out st:Nat}{ids:List (Nat × Nat)}{D:Mat}{n:Nat}(k:TabAt h o out st ids D n){a:Nat}{p:Nat × Nat}(f:ids[a]? =some p)(r:List Int)(v:r.length=n)(l:a<n):TabAt (h.set p.1 (.row 3 1 (r.map qz) p.2)) o out st ids (D.set a r) n:=by
 have c:=k.at_ a p f
 have y:p.1≠o:=λq=>by rw[q,k.box] at c;cases c
 have u:p.1≠out:=λq=>by rw[q,k.row] at c;injection c with c;injection c with h1;cases h1
 refine⟨by rw[zc y];exact k.box,by rw[zc u];exact k.row,k.len,⟨by rw[zJ];exact k.sq.1,λx i=>?_⟩,λb q d=>?_,k.nd⟩
 ·rcases List.mem_or_eq_of_mem_set i with i|rfl
  ·exact k.sq.2 x i
  ·exact v
 ·by_cases j:b=a
  ·subst j
   rw[f] at d;injection d with d;subst d
   rw[zm c,zZ,zo (by rw[k.sq.1];exact l)]
   rfl
  ·have g:p.1≠q.1:=λe=>by
    have w:a<ids.length:=(zd.1 f).1
    have s:b<ids.length:=(zd.1 d).1
    have m:(ids.map (·.1))[a]? =some p.1:=by rw[zz,f];rfl
    have t:(ids.map (·.1))[b]? =some q.1:=by rw[zz,d];rfl
    have:=(List.getElem?_inj (by simpa using w) k.nd).1 (m.trans (by rw[t,e]))
    exact j this.symm
   rw[zc g,k.at_ b q d,zZ,zZ,zc (Ne.symm j)]
theorem XYa{n:Nat}{D:Mat}(h:Sq n D){a b:Nat}{v:Int}(c:a<n):wu D a b v=D.set a ((wu D a b v).getD a []):=by
 obtain⟨r,e,d,f⟩:=VV h c
 unfold wu
 split
 ·unfold Xa
  rw[WH (by rw[h.1];exact c)]
 ·rw[d]
  apply qX
  intro i
  by_cases hi:i=a
  ·subst hi;rw[e,zo (by rw[h.1];exact c)]
  ·rw[zc (Ne.symm hi)]
theorem XZa{n:Nat}{D:Mat}(h:Sq n D){a b:Nat}{v:Int}(c:a<n):((wu D a b v).getD a []).length=n:=by
 obtain⟨r,f,d,e⟩:=VV (W6 h a b v) c
 rw[d];exact e
theorem zrb(h:List Ob)(o out st:Nat)(ids:List (Nat × Nat))(D:Mat)(n a b:Nat)(v:Int)(p:Nat × Nat)(k:TabAt h o out st ids D n)(z:a<n)(G:b<n)(A:ids[a]? =some p):
  ACalls Tryz.prog 290 [i64 a,i64 b,i64 v,.ptr o 0] h λr h'=>r= .tup []/\h'=h.set p.1 (.row 3 1 (((wu D a b v).getD a []).map qz) p.2):=by
 obtain⟨r,F,C,E⟩:=VV k.sq z
 have d:=k.at_ a p A
 have g:(ids.map XY)[a]? =some [.tl p.1 p.2]:=by rw[zz,A];rfl
 have c:((D.getD a []).map qz)[b]? =some [i64 (kI D a b)]:=by
  unfold kI
  rw[C,zz,zi (by omega),zZ,zi (by omega)]
  rfl
 have w:(a:Int)<(ids.length:Int):=by rw[k.len];omega
 have l2:(b:Int)<((D.getD a []).length:Int):=by rw[C,E];omega
 have f:((D.getD a []).map qz).set b [i64 v]=((Xa D a b v).getD a []).map qz:=by
  unfold Xa
  rw[WH (by rw[k.sq.1];exact z),List.map_set]
  rfl
 obtain⟨m,s⟩:∃m,m=kI D a b:=⟨_,rfl⟩
 obtain⟨j,i⟩:∃j,j=(D.getD a []).map qz:=⟨_,rfl⟩
 have l3:(D.getD a []).length=j.length:=by rw[i,zb]
 rw[<-i] at d c f
 rw[<-s] at c
 rw[l3] at l2
 have t:=k.box
 have rx:=k.row
 refine zj Tryz.f290 [] 33 rfl rfl rfl rfl rfl rfl (by decide) (⟨_,_,⟨rfl,rfl⟩,qj d rfl⟩) λB=>?_
 simp only[go_sem,t,rx,g,d,c,w,l2,zb,Int.toNat_natCast,zf]
 cases u:m== -1
 ·have y:¬ kI D a b= -1:=by rw[<-s];simpa using u
  simp only[go_sem,u,qv,t,rx,g,d,c,w,l2,zb,Int.toNat_natCast,zf]
  refine ways (λe=>?_) (λe=>?_)
  ·have x:v<kI D a b:=by rw[<-s];simpa using e
   have l:wu D a b v=Xa D a b v:=by unfold wu;rw[if_pos (.inr x)]
   simp only[go_sem,t,rx,g,d,c,w,l2,zb,Int.toNat_natCast,zf]
   rw[l, <-f]
   exact⟨.tup [],by simp only[go_sem],.inl ⟨rfl,rfl⟩⟩
  ·have x:¬ v<kI D a b:=by rw[<-s];simpa using e
   have l:wu D a b v=D:=by unfold wu;rw[if_neg (λq=>q.elim y x)]
   simp only[go_sem]
   rw[l, <-i,qS d]
   exact⟨.tup [],by simp only[go_sem],.inl ⟨rfl,rfl⟩⟩
 ·have y:kI D a b= -1:=by rw[<-s];simpa using u
  have l:wu D a b v=Xa D a b v:=by unfold wu;rw[if_pos (.inl y)]
  simp only[go_sem,u,qv,t,rx,g,d,c,w,l2,zb,Int.toNat_natCast,zf]
  rw[l, <-f]
  exact⟨.tup [],by simp only[go_sem],.inl ⟨rfl,rfl⟩⟩
theorem TabAt.near{h:List Ob}{o out st:Nat}{ids:List (Nat × Nat)}{D:Mat}{n:Nat}(k:TabAt h o out st ids D n){a b:Nat}{v:Int}{p:Nat × Nat}(d:ids[a]? =some p)(c:a<n):TabAt (h.set p.1 (.row 3 1 (((wu D a b v).getD a []).map qz) p.2)) o out st ids (wu D a b v) n:=by
 have:=k.set d ((wu D a b v).getD a []) (XZa k.sq c) c
 rwa[<-XYa k.sq c] at this
theorem TabAt.rd{h:List Ob}{o out st:Nat}{ids:List (Nat × Nat)}{D:Mat}{n:Nat}(k:TabAt h o out st ids D n){a:Nat}{p:Nat × Nat}(f:ids[a]? =some p)(e:a<n):∃X,h[p.1]? =some (.row 3 1 X p.2)/\X.length=n/\∀b,b<n->X[b]? =some [i64 (kI D a b)]:=by
 obtain⟨r,i,c,d⟩:=VV k.sq e
 refine⟨(D.getD a []).map qz,k.at_ a p f,by rw[zb,c,d],λb g=>?_⟩
 unfold kI
 rw[c,zz,zi (by omega),zZ,zi (by omega)]
 rfl
theorem TabAt.ix{h:List Ob}{o out st:Nat}{ids:List (Nat × Nat)}{D:Mat}{n:Nat}(k:TabAt h o out st ids D n){a:Nat}(c:a<n):∃p,ids[a]? =some p/\(ids.map XY)[a]? =some [.tl p.1 p.2]/\p.1<h.length:=by
 have d:a<ids.length:=by rw[k.len];exact c
 have b:ids[a]? =some ids[a]:=zi d
 exact⟨ids[a],b,by rw[zz,b];rfl,(zd.1 (k.at_ a _ b)).1⟩
structure TabIn (h0 h:List Ob) (out n i:Nat) (ids:List (Nat × Nat)):Prop where
 pre:Pre h0 h
 row:h[out]? =some (.row 27 1 (ids.map XY++List.replicate (n - i) [.v (.slice none 0 0)]) 0)
 box:h[out+1]? =some (.box 322 [.tl out 0])
 len:ids.length=i
 at_:∀(a:Nat) (p:Nat × Nat),ids[a]? =some p->out+2<=p.1/\h[p.1]? =some (.row 3 1 ((Qma n a).map qz) p.2)
 nd:(ids.map (·.1)).Nodup
theorem X0a{n a:Nat}(b:a<n):(Xb n).getD a []=Qma n a:=by
 unfold Xb
 rw[zZ,zz,List.getElem?_range b]
 rfl
theorem TabIn.full{h0 h:List Ob}{out n:Nat}{ids:List (Nat × Nat)}(k:TabIn h0 h out n n ids):TabAt h (out+1) out 0 ids (Xb n) n:=by
 refine⟨k.box,by have:=k.row;rw[Nat.sub_self] at this;simpa using this,k.len,yGa n,λa p q=>?_,k.nd⟩
 have b:a<n:=by rw[<-k.len];exact(zd.1 q).1
 rw[X0a b]
 exact(k.at_ a p q).2
theorem Waa{s:Setup}(a:z6 s=true):(1<=s.places/\s.places<=16)/\∀w∈s.ways,(0<=w.1/\w.1<s.places)/\(0<=w.2.1/\w.2.1<s.places):=by
 simp only[z6,yS,zq] at a
 have e:=Qz a.1.1.1.1.1
 refine⟨e,λw d=>?_⟩
 have c:=a.1.1.1.2
 simp only[Bool.not_eq_true',List.any_eq_false] at c
 have:=c w d
 have b:wr (s.places - 1)=s.places - 1:=qq (by unfold Fit;omega)
 simp[JW,Qx,qfa,b] at this
 omega
theorem wya(h:List Ob){D:Mat}{n:Nat}(k:Sq n D):∃(L:List Ob) (out st:Nat) (ids:List (Nat × Nat)) (o:Nat),NoRes L/\TabAt (h++L) o out st ids D n:=by
 obtain⟨M,e⟩:∃M,M=D.map λr=>Ob.row 3 1 (r.map qz) 0:=⟨_,rfl⟩
 obtain⟨ids,c⟩:∃ids,ids=(List.range n).map λa=>(h.length+(2+a),0):=⟨_,rfl⟩
 refine⟨.row 27 1 (ids.map XY) 0:: .box 322 [.tl h.length 0]::M,h.length,0,ids,h.length+1,?_,zG (k:=1) rfl,zK rfl,by rw[c];simp,k,λa p d=>?_,?_⟩
 ·refine zl rfl (zl rfl λo g=>?_)
  rw[e] at g
  obtain⟨r,_,rfl⟩:=zt.1 g
  rfl
 ·have f:a<n:=by
   have:=(zd.1 d).1
   rw[c] at this;simpa using this
  rw[c,zz,List.getElem?_range f] at d
  injection d with d
  subst d
  obtain⟨r,j,i,l⟩:=VV k f
  simp only
  rw[zG rfl,show 2+a=a+1+1 by omega,List.getElem?_cons_succ,List.getElem?_cons_succ,e,zz,j,i]
  rfl
 ·rw[c,xH]
  unfold List.Nodup
  rw[List.pairwise_map]
  refine List.Pairwise.imp (λ{a b} h=>?_) (List.nodup_range (n:=n))
  simpa using h
theorem Vk{α:Type}{n:Nat}{f:Mat->α->Mat}(a:∀D x,Sq n D->Sq n (f D x)):∀(l:List α) (D:Mat),Sq n D->Sq n (l.foldl f D)
 | [],_,h=>h
 | x::l,D,h=>Vk a l (f D x) (a D x h)
theorem Wba{n b y a:Nat}{D:Mat}(h:Sq n D):Sq n (zna b y a D):=by
 unfold zna
 split
 ·exact W6 h _ _ _
 ·exact h
theorem Wca{n y a:Nat}{D:Mat}(h:Sq n D):Sq n (zoa n y D a):=by
 unfold zoa
 split
 ·exact h
 ·exact Vk (λD x h=>Wba h) _ _ h
theorem Wda{n y:Nat}{D:Mat}(h:Sq n D):Sq n (kra n D y):=Vk (λD x h=>Wca h) _ _ h
theorem X1a(s:Setup):Sq s.places.toNat (ZJ s):=
 Vk (λD x h=>Wda h) _ _ (Vk (λD w h=>W6 (W6 h _ _ _) _ _ _) _ _ (yGa _))
set_option maxHeartbeats 2000000 in
theorem c91(h:List Ob)(s:Setup)(a:SA)(k:SIn h s a)(f:SFit s)(hs:z6 s=true):
  ACalls Tryz.prog 255 [jg s a] h λr h'=>∃(L:List Ob) (out st:Nat) (ids:List (Nat × Nat)) (o:Nat),h'=h++L/\NoRes L/\r= .tl out st/\TabAt h' o out st ids (ZJ s) s.places.toNat:=by
 have hex:∃r h',(∃(L:List Ob) (out st:Nat) (ids:List (Nat × Nat)) (o:Nat),h'=h++L/\NoRes L/\r=AV.tl out st/\TabAt h' o out st ids (ZJ s) s.places.toNat)/\ResK h h':=by
  obtain⟨L,out,st,ids,o,q1,q2⟩:=wya h (X1a s)
  exact⟨_,_,⟨L,out,st,ids,o,rfl,q1,rfl,q2⟩,resK_app⟩
 obtain⟨⟨p1,p2⟩,τ⟩:=Waa hs
 obtain⟨n,hn⟩:∃n:Nat,n=s.places.toNat:=⟨_,rfl⟩
 have γ:s.places=(n:Int):=by omega
 have hnb:(n:Int)*25<=140737488355328:=by omega
 refine zj Tryz.f255 [.tmp 2] 109 rfl rfl rfl rfl rfl rfl (by decide) (hex) λB=>?_
 simp only[go_sem,k.w.one,k.e.one,k.c.one,k.g.one,k.r.one,k.t.one]
 refine zh (c16 _ s a (k.app _) f) ?_
 rintro _ h1 ⟨rfl,e2⟩
 subst e2
 obtain⟨h0,K⟩:∃h0,h0=h++[Ob.box 30 (qg s a)]:=⟨_,rfl⟩
 have hl0:h0.length=h.length+1:=by rw[K];simp
 have h30:h0[h.length]? =some (.box 30 (qg s a)):=by rw[K];exact zK rfl
 have k0:SIn h0 s a:=by rw[K];exact k.app _
 have hP:(h++[Ob.box 30 (qg s a)])[h.length]? =some (.box 30 (qg s a)):=zK rfl
 simp only[go_sem,hs,Bool.not_true,γ,hnb,Int.toNat_natCast,zf]
 refine zO (by decide) (λm T h'=>∃(i:Nat) (ids:List (Nat × Nat)),i<=n/\TabIn h0 h' (h.length+1) n i ids/\T 1= .ptr h.length 0/\T 3= .ptr (h.length+2) 0/\T 19=i64 n/\T 20=i64 i/\m=n - i) n
  ⟨0,[],by omega,⟨⟨_,by rw[K,zr];rfl,zl rfl (zD rfl)⟩,by rw[zG (k:=1) rfl];rfl,by rw[zG (k:=2) rfl];rfl,rfl,λ_ _ q=>by simp at q,.nil⟩,by simp only[go_sem],by simp only[go_sem],by simp only[go_sem],by(simp only[go_sem]<;>rfl),rfl⟩ ?_
 rintro m T h' ⟨i,ids,hi,A,t1,t3,η,ζ,rfl⟩
 simp only[go_sem,η,ζ]
 refine ways (λe=>?_) (λe=>?_)
 ·have H:i<n:=dlt e
  have F:∀M,(h'++M)[h.length]? =some (.box 30 (qg s a)):=λM=>by
   obtain⟨L,rfl,_⟩:=A.pre
   rw[zr];exact ze h30
  have hbx:∀M,(h'++M)[h.length+2]? =some (.box 322 [.tl (h.length+1) 0]):=λM=>ze A.box
  have hrw:∀M,(h'++M)[h.length+1]? =some (.row 27 1 (ids.map XY++List.replicate (n - i) [.v (.slice none 0 0)]) 0):=λM=>ze A.row
  have ν:(ids.map XY++List.replicate (n - i) [AV.v (.slice none 0 0)]).length=n:=by simp[A.len];omega
  have hil:(i:Int)<(n:Int):=by omega
  simp only[go_sem]
  refine zQ rfl [.res] 1 [(1,0,[]),(3,0,[]),(0,0,[]),(4,0,[]),(2,0,[]),(5,0,[0]),(6,0,[]),(7,0,[])] rfl (by decide) (by decide) ?_
  simp only[go_sem,t1,t3,η,ζ,hbx,hrw,F,γ]
  refine zh (xYb (h'++[Ob.row 3 1 [[i64 (-1)]] 0]) (.tl h'.length 0) (-1) n (ZO (by rw[zK rfl];rfl)) (by omega) (by omega)) ?_
  rintro _ h4 ⟨L,id,st,rfl,n1,hid,rfl,κ⟩
  have hlen':h.length+2<h'.length:=(zd.1 A.box).1
  simp only[zg,List.length_cons,List.length_nil] at hid
  obtain⟨Z,N⟩:∃Z,Z=h'++[Ob.row 3 1 [[i64 (-1)]] 0]++L:=⟨_,rfl⟩
  have hp5:Pre h0 Z:=by rw[N];exact(A.pre.app (zD rfl)).app n1
  have b5:Z[h.length+2]? =some (.box 322 [.tl (h.length+1) 0]):=by rw[N,zr];exact hbx _
  have r5:Z[h.length+1]? =some (.row 27 1 (ids.map XY++List.replicate (n - i) [.v (.slice none 0 0)]) 0):=by rw[N,zr];exact hrw _
  have at5:∀(a:Nat) (p:Nat × Nat),ids[a]? =some p->Z[p.1]? =some (.row 3 1 ((Qma n a).map qz) p.2):=λa p q=>by
   rw[N,zr];exact ze (A.at_ a p q).2
  rw[<-N] at κ
  obtain⟨R,hR⟩:∃R,R=ids.map XY++List.replicate (n - i) [AV.v (.slice none 0 0)]:=⟨_,rfl⟩
  rw[<-hR] at r5 ν
  have hset:R.set i [.tl id st]=(ids++[(id,st)]).map XY++List.replicate (n - (i+1)) [AV.v (.slice none 0 0)]:=by
   rw[hR,zT _ _ (by simp[A.len])]
   simp only[zb,A.len,Nat.sub_self,zw,List.map_cons,List.map_nil]
   rw[show n - i=(n - (i+1))+1 by omega,List.replicate_succ]
   simp
  have rI:R[i]? =some [AV.v (.slice none 0 0)]:=by
   rw[hR,zX (by simp[A.len]),zb,A.len,Nat.sub_self,List.getElem?_replicate,if_pos (by omega)]
  have s1:∀o,(Z.set (h.length+1) o)[h.length+1]? =some o:=λo=>zm r5
  have s2:∀o,(Z.set (h.length+1) o)[h.length+2]? =some (.box 322 [.tl (h.length+1) 0]):=λo=>by rw[zc (by omega)];exact b5
  have s3:∀o,(Z.set (h.length+1) o)[id]? =some (.row 3 1 (List.replicate n [i64 (-1)]) st):=λo=>by rw[zc (by omega)];exact κ
  have s4:(R.set i [.tl id st])[i]? =some [.tl id st]:=zo (by omega)
  have s5:(R.set i [.tl id st]).length=n:=by rw[zJ];exact ν
  have s7:(List.replicate n [i64 (-1)])[i]? =some [i64 (-1)]:=by rw[List.getElem?_replicate,if_pos H]
  have s6:(List.replicate n [i64 (-1)]).length=n:=ja
  rw[<-N]
  simp only[go_sem,t3,ζ,b5,r5,ν,hil,rI,s1,s2,s3,s4,s5,s6,s7,Int.toNat_natCast,zf]
  have ι:∀(a:Nat) (p:Nat × Nat),ids[a]? =some p->p.1<h'.length:=λa p q=>(zd.1 (A.at_ a p q).2).1
  have hF:TabIn h0 ((Z.set (h.length+1) (.row 27 1 (R.set i [.tl id st]) 0)).set id (.row 3 1 ((List.replicate n [i64 (-1)]).set i [i64 0]) st)) (h.length+1) n (i+1) (ids++[(id,st)]):=by
   refine⟨(hp5.set (by omega) rfl).set (by omega) rfl,?_,?_,by simp[A.len],λa p q=>?_,?_⟩
   ·rw[zc (by omega),s1,hset]
   ·rw[zc (by omega)];exact s2 _
   ·by_cases ha:a<i
    ·rw[zN (by rw[A.len];exact ha)] at q
     have h1:=A.at_ a p q
     have h2:=ι a p q
     exact⟨h1.1,by rw[zc (by omega),zc (by omega)];exact at5 a p q⟩
    ·have hai:a=i:=by
      have:=(zd.1 q).1
      simp[A.len] at this
      omega
     subst hai
     rw[zX (by rw[A.len];exact zp _),A.len,Nat.sub_self] at q
     injection q with q
     subst q
     refine⟨by simp only;omega,?_⟩
     rw[zm (s3 _)]
     simp[Qma,qz,List.map_set]
   ·rw[zw,List.nodup_append]
    refine⟨A.nd,by simp,λx hx y hy=>?_⟩
    obtain⟨p,hp,rfl⟩:=zt.1 hx
    obtain⟨a,ha⟩:=List.mem_iff_getElem?.1 hp
    have:=ι a p ha
    simp at hy
    omega
  exact⟨n - (i+1),by omega,i+1,ids++[(id,st)],by omega,hF,t1,η,qn (by omega) rfl,rfl⟩
 ·have hge:n<=i:=xr e
  have W:i=n:=by omega
  subst W
  have d:=A.full
  have l:=A.pre
  have V:∀(a:Nat) (p:Nat × Nat),ids[a]? =some p->h0.length<=p.1:=λa p q=>by have:=(A.at_ a p q).1;omega
  clear A hi
  have F:∀ {h':List Ob},Pre h0 h'->h'[h.length]? =some (.box 30 (qg s a)):=λ{h'} q=>by
   obtain⟨L,rfl,_⟩:=q
   exact ze h30
  have E:=F l
  have hwr:∀ {h':List Ob},Pre h0 h'->SlOf h' a.w 3 (s.ways.map Kg):=λ{h'} q=>(q.sin k0).w
  have J:=hwr l
  have q0:=l.sin k0
  simp only[go_sem,t1,t3,E,J.rows,J.one,q0.e.one,q0.c.one,q0.g.one,q0.r.one,q0.t.one,zb]
  refine zO (by decide) (λm T h'=>∃(j:Nat),j<=s.ways.length/\Pre h0 h'/\TabAt h' (h.length+2) (h.length+1) 0 ids ((s.ways.take j).foldl woa (Xb i)) i/\T 1= .ptr h.length 0/\T 3= .ptr (h.length+2) 0/\T 5= .fn (.func 290) [] [.ptr (h.length+2) 0]/\T 39=a.w/\T 40=i64 s.ways.length/\T 41=i64 j/\m=s.ways.length - j) s.ways.length
   ⟨0,by omega,l,d,by simp only[go_sem,t1],by simp only[go_sem,t3],by simp only[go_sem],by simp only[go_sem],by simp only[go_sem],by(simp only[go_sem]<;>rfl),rfl⟩ ?_
  clear t1 t3 η ζ d l E J q0
  rintro m T h' ⟨j,hj,l,d,t1,t3,t5,t39,ρ,α,rfl⟩
  have J:=hwr l
  simp only[go_sem,ρ,α]
  refine ways (λe=>?_) (λe=>?_)
  ·have H:=dlt e
   have hee:=J.at (i:=j) (by simpa using H)
   have P:(s.ways.map Kg)[j]? =some (Kg s.ways[j]):=by rw[zz,zi H];rfl
   have hkl:(j:Int)<s.ways.length:=by omega
   have W:=τ s.ways[j] (zx H)
   have G:(s.ways.take (j+1)).foldl woa (Xb i)=woa ((s.ways.take j).foldl woa (Xb i)) s.ways[j]:=by
    rw[<-zE H,qK];rfl
   obtain⟨w,hw⟩:∃w,w=s.ways[j]:=⟨_,rfl⟩
   rw[<-hw] at P W G
   obtain⟨w1,w2,U⟩:=w
   simp only at W
   obtain⟨⟨i1,i2⟩,i3,i4⟩:=W
   obtain⟨Q,rfl⟩:=Int.eq_ofNat_of_zero_le i1
   obtain⟨S,rfl⟩:=Int.eq_ofNat_of_zero_le i3
   obtain⟨D,hD⟩:∃D,D=(s.ways.take j).foldl woa (Xb i):=⟨_,rfl⟩
   rw[<-hD] at d G
   have ha:Q<i:=by omega
   have hb:S<i:=by omega
   obtain⟨pa,a1,a2,a3⟩:=d.ix ha
   obtain⟨pb,b1,b2,b3⟩:=d.ix hb
   have hA:List.length (Kg ((Q:Int),(S:Int),U))=3:=rfl
   have hw3:Kg ((Q:Int),(S:Int),U)=[i64 Q,i64 S,i64 U]:=rfl
   rw[hw3] at P
   simp only[go_sem,t39,α,t5,hee,J.rows,P,hkl,zb,Int.toNat_natCast,zf]
   refine zh (zrb (h'++[Ob.box 225 [i64 Q,i64 S,i64 U]]) (h.length+2) (h.length+1) 0 ids D i Q S U pa (d.app _) ha hb a1) ?_
   rintro _ h4 ⟨rfl,rfl⟩
   have δ:=(d.app [Ob.box 225 [i64 Q,i64 S,i64 U]]).near (b:=S) (v:=U) a1 ha
   have g1:∀o,((h'++[Ob.box 225 [i64 Q,i64 S,i64 U]]).set pa.1 o)[h'.length]? =some (.box 225 [i64 Q,i64 S,i64 U]):=λo=>by
    rw[zc (by omega),zK rfl];rfl
   simp only[go_sem,t5,g1]
   refine zh (zrb _ (h.length+2) (h.length+1) 0 ids _ i S Q U pb δ hb ha b1) ?_
   rintro _ h4 ⟨rfl,rfl⟩
   have ht3:=δ.near (b:=Q) (v:=U) b1 hb
   simp only[go_sem,α]
   exact⟨s.ways.length - (j+1),by omega,j+1,by omega,((l.app (zD rfl)).set (V _ _ a1) rfl).set (V _ _ b1) rfl,by rw[G];exact ht3,t1,t3,t5,t39,ρ,qn (by have:=f.nw;omega) rfl,rfl⟩
  ·have hge2:=xr e
   have hj2:j=s.ways.length:=by omega
   subst hj2
   rw[zV] at d
   obtain⟨D0,hD0⟩:∃D0,D0=s.ways.foldl woa (Xb i):=⟨_,rfl⟩
   rw[<-hD0] at d
   have E:=F l
   simp only[go_sem,t1,t3,E,γ]
   refine zO (by decide) (λm T h'=>∃(y:Nat),y<=i/\Pre h0 h'/\TabAt h' (h.length+2) (h.length+1) 0 ids ((List.range y).foldl (kra i) D0) i/\T 1= .ptr h.length 0/\T 3= .ptr (h.length+2) 0/\T 5= .fn (.func 290) [] [.ptr (h.length+2) 0]/\T 63=i64 i/\T 64=i64 y/\m=i - y) i
    ⟨0,by omega,l,d,by simp only[go_sem,t1],by simp only[go_sem,t3],by simp only[go_sem,t5],by simp only[go_sem],by(simp only[go_sem]<;>rfl),rfl⟩ ?_
   clear t1 t3 t5 t39 ρ α d l E
   rintro m T h' ⟨y,hy,l,d,t1,t3,t5,z,u,rfl⟩
   simp only[go_sem,z,u]
   refine ways (λe=>?_) (λe=>?_)
   ·have O:y<i:=dlt e
    have hfy:(List.range (y+1)).foldl (kra i) D0=kra i ((List.range y).foldl (kra i) D0) y:=by
     rw[List.range_succ,qK];rfl
    obtain⟨D1,hD1⟩:∃D1,D1=(List.range y).foldl (kra i) D0:=⟨_,rfl⟩
    rw[<-hD1] at d hfy
    have E:=F l
    simp only[go_sem]
    refine zga (by decide) ?_
    simp only[go_sem,t1,E,γ]
    refine zO (by decide) (λm T h'=>∃(x:Nat),x<=i/\Pre h0 h'/\TabAt h' (h.length+2) (h.length+1) 0 ids ((List.range x).foldl (zoa i y) D1) i/\T 1= .ptr h.length 0/\T 3= .ptr (h.length+2) 0/\T 5= .fn (.func 290) [] [.ptr (h.length+2) 0]/\T 63=i64 i/\T 64=i64 y/\T 8=i64 y/\T 68=i64 i/\T 69=i64 x/\m=i - x) i
     ⟨0,by omega,l,d,by simp only[go_sem,t1],by simp only[go_sem,t3],by simp only[go_sem,t5],by simp only[go_sem,z],by simp only[go_sem,u],by simp only[go_sem,u],by simp only[go_sem],by(simp only[go_sem]<;>rfl),rfl⟩ ?_
    clear t1 t3 t5 z u d l E
    rintro m T h' ⟨x,hx,l,d,t1,t3,t5,z,u,t8,C,t69,rfl⟩
    simp only[go_sem,C,t69]
    refine ways (λe=>?_) (λe=>?_)
    ·have I:x<i:=dlt e
     have φ:(List.range (x+1)).foldl (zoa i y) D1=zoa i y ((List.range x).foldl (zoa i y) D1) x:=by
      rw[List.range_succ,qK];rfl
     obtain⟨D2,hD2⟩:∃D2,D2=(List.range x).foldl (zoa i y) D1:=⟨_,rfl⟩
     rw[<-hD2] at d φ
     obtain⟨px,x1,x2,x3⟩:=d.ix I
     obtain⟨py,y1,y2,y3⟩:=d.ix O
     obtain⟨X,X1,X2,X3⟩:=d.rd x1 I
     obtain⟨Y,Y1,Y2,Y3⟩:=d.rd y1 O
     have θ:=X3 y O
     have bx:=d.box
     have rx:=d.row
     have lx:(x:Int)<(ids.length:Int):=by rw[d.len];omega
     have ly:(y:Int)<(ids.length:Int):=by rw[d.len];omega
     have lX:(y:Int)<(X.length:Int):=by rw[X2];omega
     simp only[go_sem,t3,t8,t69,bx,rx,x2,X1,θ,lx,lX,zb,Int.toNat_natCast,zf]
     cases f1:kI D2 x y== -1
     ·have g1:¬ kI D2 x y= -1:=by simpa using f1
      simp only[go_sem,f1,t3,t8,bx,rx,y2,Y1,Y2,ly,zb,Int.toNat_natCast,zf]
      refine zO (by decide) (λm T h'=>∃(b:Nat),b<=i/\Pre h0 h'/\TabAt h' (h.length+2) (h.length+1) 0 ids ((List.range b).foldl (λD b=>zna b y x D) D2) i/\T 1= .ptr h.length 0/\T 3= .ptr (h.length+2) 0/\T 5= .fn (.func 290) [] [.ptr (h.length+2) 0]/\T 63=i64 i/\T 64=i64 y/\T 8=i64 y/\T 9=i64 x/\T 68=i64 i/\T 69=i64 x/\T 83= .tl py.1 py.2/\T 84=i64 i/\T 85=i64 b/\m=i - b) i
       ⟨0,by omega,l,d,by simp only[go_sem,t1],by simp only[go_sem,t3],by simp only[go_sem,t5],by simp only[go_sem,z],by simp only[go_sem,u],by simp only[go_sem,t8],by simp only[go_sem],by simp only[go_sem,C],by simp only[go_sem,t69],by simp only[go_sem],by simp only[go_sem],by(simp only[go_sem]<;>rfl),rfl⟩ ?_
      clear t1 t3 t5 z u t8 C t69 d l bx rx X1 Y1 θ
      rintro m T h' ⟨b,hb,l,d,t1,t3,t5,z,u,t8,t9,C,t69,t83,t84,ε,rfl⟩
      simp only[go_sem,t84,ε]
      refine ways (λe=>?_) (λe=>?_)
      ·have υ:b<i:=dlt e
       have ξ:(List.range (b+1)).foldl (λD b=>zna b y x D) D2=zna b y x ((List.range b).foldl (λD b=>zna b y x D) D2):=by
        rw[List.range_succ,qK];rfl
       obtain⟨D3,hD3⟩:∃D3,D3=(List.range b).foldl (λD b=>zna b y x D) D2:=⟨_,rfl⟩
       rw[<-hD3] at d ξ
       obtain⟨X,X1,X2,X3⟩:=d.rd x1 I
       obtain⟨Y,Y1,Y2,Y3⟩:=d.rd y1 O
       have θ:=X3 y O
       have hYb:=Y3 b υ
       have bx:=d.box
       have rx:=d.row
       have lX:(y:Int)<(X.length:Int):=by rw[X2];omega
       have lY:(b:Int)<(Y.length:Int):=by rw[Y2];omega
       simp only[go_sem,t83,ε,Y1,hYb,lY,zb,Int.toNat_natCast,zf]
       refine ways (λe2=>?_) (λe2=>?_)
       ·have g2:kI D3 y b≠ -1:=by simpa using e2
        simp only[go_sem,t3,t5,t8,t9,bx,rx,x2,X1,θ,lx,lX,zb,Int.toNat_natCast,zf]
        refine zh (zrb _ (h.length+2) (h.length+1) 0 ids _ i x b _ px d I υ x1) ?_
        rintro _ h4 ⟨rfl,rfl⟩
        have δ:=d.near (b:=b) (v:=wr (kI D3 x y+kI D3 y b)) x1 I
        simp only[go_sem,ε]
        exact⟨i - (b+1),by omega,b+1,by omega,l.set (V _ _ x1) rfl,by rw[ξ];unfold zna;rw[if_pos g2];exact δ,t1,t3,t5,z,u,t8,t9,C,t69,t83,t84,qn (by omega) rfl,rfl⟩
       ·have g2:¬ kI D3 y b≠ -1:=by simpa using e2
        simp only[go_sem,ε]
        exact⟨i - (b+1),by omega,b+1,by omega,l,by rw[ξ];unfold zna;rw[if_neg g2];exact d,t1,t3,t5,z,u,t8,t9,C,t69,t83,t84,qn (by omega) rfl,rfl⟩
      ·have υ:i<=b:=xr e
       have hbe:b=i:=by omega
       subst hbe
       simp only[go_sem,t69]
       exact⟨b - (x+1),by omega,x+1,by omega,l,by rw[φ];unfold zoa;rw[if_neg g1];exact d,t1,t3,t5,z,u,t8,C,qn (by omega) rfl,rfl⟩
     ·have g1:kI D2 x y= -1:=by simpa using f1
      simp only[go_sem,f1,t69]
      exact⟨i - (x+1),by omega,x+1,by omega,l,by rw[φ];unfold zoa;rw[if_pos g1];exact d,t1,t3,t5,z,u,t8,C,qn (by omega) rfl,rfl⟩
    ·have I:i<=x:=xr e
     have hxe:x=i:=by omega
     subst hxe
     simp only[go_sem,u]
     exact⟨x - (y+1),by omega,y+1,by omega,l,by rw[hfy];exact d,t1,t3,t5,z,qn (by omega) rfl,rfl⟩
   ·have O:i<=y:=xr e
    have hye:y=i:=by omega
    subst hye
    have bx:=d.box
    simp only[go_sem,t3,bx]
    have hlen0:h0=h++[Ob.box 30 (qg s a)]:=K
    have hpr:Pre h h':=by
     have:Pre h h0:=⟨_,K,zD rfl⟩
     exact this.trans l
    obtain⟨L,rfl,hN⟩:=hpr
    refine⟨.tl (h.length+1) 0,by simp only[go_sem],.inl ⟨L,h.length+1,0,ids,h.length+2,rfl,hN,rfl,?_⟩⟩
    have:ZJ s=(List.range y).foldl (kra y) D0:=by
     unfold ZJ
     rw[<-hn,hD0]
    rw[this]
    exact d
