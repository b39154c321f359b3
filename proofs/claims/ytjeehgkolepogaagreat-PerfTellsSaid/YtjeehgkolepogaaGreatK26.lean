import Derived.Test.YtjeehgkolepogaaGreatK25
set_option linter.all false
namespace Go.Proofs.YtjeehgkolepogaaGreat.Ax
open Go Go.Proofs
set_option maxRecDepth 100000
section
variable{D:Mat}{a o out st n b y:Nat}{h:List Ob}{ids:List (Nat × Nat)}{p:Nat × Nat}{v:Int}
attribute [go_sem] kWa xRa qOa zBa
abbrev Zz(p:Nat × Nat):List AV:=[.tl p.1 p.2]
def Q0(b:a<D.length)(r:List Int):(D.set a r).getD a []=r:=by
 rw[zn,zr b];rfl
structure TabAt (h:List Ob) (o out st:Nat) (ids:List (Nat × Nat)) (D:Mat) (n:Nat):Prop where
 box:h[o]? =some (.box 134 [.tl out st])
 row:h[out]? =some (.row 27 1 (ids.map Zz) st)
 len:ids.length=n
 sq:Sq n D
 at_:∀(a:Nat) (p:Nat × Nat),ids[a]? =some p->h[p.1]? =some (.row 3 1 ((D.getD a []).map qQ) p.2)
 nd:(ids.map (·.1)).Nodup
def TabAt.app(k:TabAt h o out st ids D n)(M:List Ob):TabAt (h++M) o out st ids D n:=
 ⟨zk k.box,zk k.row,k.len,k.sq,λa p q=>zk (k.at_ a p q),k.nd⟩
def TabAt.set(k:TabAt h o out st ids D n)(f:ids[a]? =some p)(r:List Int)(m:r.length=n)(i:a<n):TabAt (h.set p.1 (.row 3 1 (r.map qQ) p.2)) o out st ids (D.set a r) n:=by
 have c:=k.at_ a p f;have w:p.1≠o:=λq=>by rw[q,k.box] at c;cases c
 have u:p.1≠out:=λq=>by rw[q,k.row] at c;injection c with c;injection c with h1;cases h1
 refine⟨by rw[zf w];exact k.box,by rw[zf u];exact k.row,k.len,⟨by rw[qP];exact k.sq.1,λx j=>?_⟩,λb q d=>?_,k.nd⟩
 ·rcases List.mem_or_eq_of_mem_set j with j|rfl
  ·exact k.sq.2 x j
  ·exact m
 ·by_cases g:b=a
  ·subst g;rw[f] at d;injection d with d;subst d
   rw[zt c,zn,zr (by rw[k.sq.1];exact i)];rfl
  ·have l:p.1≠q.1:=λe=>by
    have v:a<ids.length:=(zj.1 f).1;have y:b<ids.length:=(zj.1 d).1;have t:(ids.map (·.1))[a]? =some p.1:=(by rw[zw,f];rfl);have s:(ids.map (·.1))[b]? =some q.1:=(by rw[zw,d];rfl);have:=(List.getElem?_inj (by simpa using v) k.nd).1 (t.trans (by rw[s,e]));exact g this.symm
   rw[zf l,k.at_ b q d,zn,zn,zf (Ne.symm g)]
def xqa(h:Sq n D)(c:a<n):jY D a b v=D.set a ((jY D a b v).getD a []):=by
 obtain⟨r,d,e,f⟩:=ZP h c;unfold jY;split
 ·unfold xU;rw[Q0 (by rw[h.1];exact c)]
 ·rw[e];apply qz;intro i;by_cases hi:i=a
  ·subst hi;rw[d,zr (by rw[h.1];exact c)]
  ·rw[zf (Ne.symm hi)]
def xra(h:Sq n D)(c:a<n):((jY D a b v).getD a []).length=n:=by
 obtain⟨r,f,e,d⟩:=ZP (yx h a b v) c;rw[e];exact d
def c110(h:List Ob)(o out st:Nat)(ids:List (Nat × Nat))(D:Mat)(n a b:Nat)(v:Int)(p:Nat × Nat)(k:TabAt h o out st ids D n)(z:a<n)(G:b<n)(A:ids[a]? =some p):
    ACalls Tryz.prog 143 [i64 a,i64 b,i64 v,.ptr o 0] h λr h'=>r= .tup []/\h'=h.set p.1 (.row 3 1 (((jY D a b v).getD a []).map qQ) p.2):=by
 obtain⟨r,F,y,E⟩:=ZP k.sq z;have d:=k.at_ a p A;have g:(ids.map Zz)[a]? =some [.tl p.1 p.2]:=by rw[zw,A];rfl
 have c:((D.getD a []).map qQ)[b]? =some [i64 (qm D a b)]:=by
  unfold qm;rw[y,zw,zg zb,zn,zg zb];rfl
 have l1:(a:Int)<(ids.length:Int):=by rw[k.len];omega
 have l2:(b:Int)<((D.getD a []).length:Int):=by rw[y,E];omega
 have f:((D.getD a []).map qQ).set b [i64 v]=((xU D a b v).getD a []).map qQ:=by
  unfold xU;rw[Q0 (by rw[k.sq.1];exact z),List.map_set];rfl
 obtain⟨m,l⟩:∃m,m=qm D a b:=⟨_,rfl⟩;obtain⟨i,j⟩:∃i,i=(D.getD a []).map qQ:=⟨_,rfl⟩;have C:(D.getD a []).length=i.length:=by rw[j,zc]
 rw[<-j] at d c f;rw[<-l] at c;rw[C] at l2;have t:=k.box;have rx:=k.row;refine enterQX Tryz.f143 (λB=>?_) (⟨_,_,⟨rfl,rfl⟩,qX d rfl⟩);simp only[go_sem,t,rx,g,d,c,l1,l2,zc,Int.toNat_natCast,zd];cases u:m== -1
 ·have w:¬ qm D a b= -1:=by rw[<-l];simpa using u
  simp only[go_sem,u,qv,t,rx,g,d,c,l1,l2,zc,Int.toNat_natCast,zd];refine ways (λe=>?_) (λe=>?_)
  ·have x:v<qm D a b:=(by rw[<-l];simpa using e);have s:jY D a b v=xU D a b v:=(by unfold jY;rw[if_pos (.inr x)]);simp only[go_sem,t,rx,g,d,c,l1,l2,zc,Int.toNat_natCast,zd];rw[s, <-f];exact⟨.tup [],zo,.inl ⟨rfl,rfl⟩⟩
  ·have x:¬ v<qm D a b:=(by rw[<-l];simpa using e);have s:jY D a b v=D:=(by unfold jY;rw[if_neg (λq=>q.elim w x)]);refine zz ?_;rw[s, <-j,jA d];exact⟨.tup [],zo,.inl ⟨rfl,rfl⟩⟩
 ·have w:qm D a b= -1:=by rw[<-l];simpa using u
  have s:jY D a b v=xU D a b v:=by unfold jY;rw[if_pos (.inl w)]
  simp only[go_sem,u,qv,t,rx,g,d,c,l1,l2,zc,Int.toNat_natCast,zd];rw[s, <-f];exact⟨.tup [],zo,.inl ⟨rfl,rfl⟩⟩
def TabAt.near(k:TabAt h o out st ids D n)(d:ids[a]? =some p)(c:a<n):TabAt (h.set p.1 (.row 3 1 (((jY D a b v).getD a []).map qQ) p.2)) o out st ids (jY D a b v) n:=by
 have:=k.set d ((jY D a b v).getD a []) (xra k.sq c) c;rwa[<-xqa k.sq c] at this
def TabAt.rd(k:TabAt h o out st ids D n)(d:ids[a]? =some p)(e:a<n):∃X,h[p.1]? =some (.row 3 1 X p.2)/\X.length=n/\∀b,b<n->X[b]? =some [i64 (qm D a b)]:=by
 obtain⟨r,g,c,f⟩:=ZP k.sq e;refine⟨(D.getD a []).map qQ,k.at_ a p d,by rw[zc,c,f],λb i=>?_⟩;unfold qm;rw[c,zw,zg zb,zn,zg zb];rfl
def TabAt.ix(k:TabAt h o out st ids D n)(c:a<n):∃p,ids[a]? =some p/\(ids.map Zz)[a]? =some [.tl p.1 p.2]/\p.1<h.length:=by
 have d:a<ids.length:=by rw[k.len];exact c
 have b:ids[a]? =some ids[a]:=zg d;exact⟨ids[a],b,by rw[zw,b];rfl,(zj.1 (k.at_ a _ b)).1⟩
structure TabIn (h0 h:List Ob) (out n i:Nat) (ids:List (Nat × Nat)):Prop where
 pre:Pre h0 h
 row:h[out]? =some (.row 27 1 (ids.map Zz++List.replicate (n - i) [.v (.slice none 0 0)]) 0)
 box:h[out+1]? =some (.box 134 [.tl out 0])
 len:ids.length=i
 at_:∀(a:Nat) (p:Nat × Nat),ids[a]? =some p->out+2<=p.1/\h[p.1]? =some (.row 3 1 ((V9 n a).map qQ) p.2)
 nd:(ids.map (·.1)).Nodup
def xsa(b:a<n):(kV n).getD a []=V9 n a:=by
 unfold kV;rw[zn,zw,List.getElem?_range b];rfl
def TabIn.full{h0 h:List Ob}(k:TabIn h0 h out n n ids):TabAt h (out+1) out 0 ids (kV n) n:=by
 refine⟨k.box,by have:=k.row;rw[Nat.sub_self] at this;simpa using this,k.len,K2 n,λa p q=>?_,k.nd⟩;have b:a<n:=by rw[<-k.len];exact(zj.1 q).1
 rw[xsa b];exact(k.at_ a p q).2
def Jp{s:Setup}(b:zX s=true):(1<=s.places/\s.places<=16)/\∀w∈s.ways,(0<=w.1/\w.1<s.places)/\(0<=w.2.1/\w.2.1<s.places):=by
 simp only[zX,xA,zi] at b;have e:=J8 b.1.1.1.1.1;refine⟨e,λw d=>?_⟩;have c:=b.1.1.1.2;simp only[Bool.not_eq_true',List.any_eq_false] at c;have:=c w d;have a:wr (s.places - 1)=s.places - 1:=qb qg;simp[vN,kY,Qq,a] at this;omega
def YE(h:List Ob)(k:Sq n D):∃(L:List Ob) (out st:Nat) (ids:List (Nat × Nat)) (o:Nat),NoRes L/\TabAt (h++L) o out st ids D n:=by
 obtain⟨M,e⟩:∃M,M=D.map λr=>Ob.row 3 1 (r.map qQ) 0:=⟨_,rfl⟩;obtain⟨ids,c⟩:∃ids,ids=(List.range n).map λa=>(h.length+(2+a),0):=⟨_,rfl⟩;refine⟨.row 27 1 (ids.map Zz) 0:: .box 134 [.tl h.length 0]::M,h.length,0,ids,h.length+1,?_,qa (k:=1) rfl,qr rfl,by rw[c];simp,k,λa p d=>?_,?_⟩
 ·refine zA rfl (zA rfl λo f=>?_);rw[e] at f;obtain⟨r,_,rfl⟩:=zQ.1 f;rfl
 ·have g:a<n:=by
   have:=(zj.1 d).1;rw[c] at this;simpa using this
  rw[c,zw,List.getElem?_range g] at d;injection d with d;subst d;obtain⟨r,i,j,l⟩:=ZP k g;simp only;rw[qa rfl,show 2+a=a+1+1 by omega,List.getElem?_cons_succ,List.getElem?_cons_succ,e,zw,i,j];rfl
 ·rw[c,List.map_map];unfold List.Nodup;rw[List.pairwise_map];refine List.Pairwise.imp (λ{a b} h=>?_) (List.nodup_range (n:=n));simpa using h
def Qh{α:Type}{f:Mat->α->Mat}(a:∀D x,Sq n D->Sq n (f D x)):∀(l:List α) (D:Mat),Sq n D->Sq n (l.foldl f D)
 | [],_,h=>h
 | x::l,D,h=>Qh a l (f D x) (a D x h)
def kBa(h:Sq n D):Sq n (vp b y a D):=by
 unfold vp;split
 ·exact yx h _ _ _
 ·exact h
def kCa(h:Sq n D):Sq n (wR n y D a):=by
 unfold wR;split
 ·exact h
 ·exact Qh (λD x h=>kBa h) _ _ h
def kDa(h:Sq n D):Sq n (Ja n D y):=Qh (λD x h=>kCa h) _ _ h
def xta(s:Setup):Sq s.places.toNat (xH s):=
 Qh (λD x h=>kDa h) _ _ (Qh (λD w h=>yx (yx h _ _ _) _ _ _) _ _ (K2 _))
set_option maxHeartbeats 2000000 in
def c91(h:List Ob)(s:Setup)(a:SA)(k:SIn h s a)(f:SFit s)(hs:zX s=true):
    ACalls Tryz.prog 113 [qE s a] h λr h'=>∃(L:List Ob) (out st:Nat) (ids:List (Nat × Nat)) (o:Nat),h'=h++L/\NoRes L/\r= .tl out st/\TabAt h' o out st ids (xH s) s.places.toNat:=by
 have hex:∃r h',(∃(L:List Ob) (out st:Nat) (ids:List (Nat × Nat)) (o:Nat),h'=h++L/\NoRes L/\r=AV.tl out st/\TabAt h' o out st ids (xH s) s.places.toNat)/\ResK h h':=by
  obtain⟨L,out,st,ids,o,q1,q2⟩:=YE h (xta s);exact⟨_,_,⟨L,out,st,ids,o,rfl,q1,rfl,q2⟩,jp⟩
 obtain⟨⟨p1,p2⟩,hways⟩:=Jp hs;obtain⟨n,hn⟩:∃n:Nat,n=s.places.toNat:=⟨_,rfl⟩;have κ:s.places=(n:Int):=zb;have hnb:(n:Int)*25<=140737488355328:=zb;refine enterQX Tryz.f113 (λB=>?_) (hex);simp only[go_sem,k.w.one,k.e.one,k.c.one,k.g.one,k.r.one,k.t.one];refine zl (c16 _ s a (k.app _) f) ?_;rintro _ h1 ⟨rfl,e2⟩;subst e2;obtain⟨h0,N⟩:∃h0,h0=h++[Ob.box 30 (zN s a)]:=⟨_,rfl⟩;have hl0:h0.length=h.length+1:=by rw[N];simp
 have h30:h0[h.length]? =some (.box 30 (zN s a)):=by rw[N];exact qr rfl
 have k0:SIn h0 s a:=by rw[N];exact k.app _
 have hP:(h++[Ob.box 30 (zN s a)])[h.length]? =some (.box 30 (zN s a)):=qr rfl;simp only[go_sem,hs,Bool.not_true,κ,hnb,Int.toNat_natCast,zd]
 refine wp_loop_a ze (λm T h'=>∃(i:Nat) (ids:List (Nat × Nat)),i<=n/\TabIn h0 h' (h.length+1) n i ids/\T 1= .ptr h.length 0/\T 3= .ptr (h.length+2) 0/\T 19=i64 n/\T 20=i64 i/\m=n - i) n
  ⟨0,[],zb,⟨⟨_,by rw[N,zq];rfl,zA rfl (zW rfl)⟩,by rw[qa (k:=1) rfl];rfl,by rw[qa (k:=2) rfl];rfl,rfl,λ_ _ q=>by simp at q,.nil⟩,zo,zo,zo,by(simp only[go_sem]<;>rfl),rfl⟩ ?_
 rintro m T h' ⟨i,ids,hi,A,t1,t3,η,ι,rfl⟩;simp only[go_sem,η,ι];refine ways (λe=>?_) (λe=>?_)
 ·have J:i<n:=dlt e
  have E:∀M,(h'++M)[h.length]? =some (.box 30 (zN s a)):=λM=>by
   obtain⟨L,rfl,_⟩:=A.pre;rw[zq];exact zk h30
  have hbx:∀M,(h'++M)[h.length+2]? =some (.box 134 [.tl (h.length+1) 0]):=λM=>zk A.box;have hrw:∀M,(h'++M)[h.length+1]? =some (.row 27 1 (ids.map Zz++List.replicate (n - i) [.v (.slice none 0 0)]) 0):=λM=>zk A.row;have υ:(ids.map Zz++List.replicate (n - i) [AV.v (.slice none 0 0)]).length=n:=by simp[A.len];omega
  have hil:(i:Int)<(n:Int):=zb;refine zz ?_;refine zZ [.res] 1 (oF [1,3,0,4,2] ((5,0,[0])::oF [6,7] ([]))) ?_;simp only[go_sem,t1,t3,η,ι,hbx,hrw,E,κ];refine zl (c109 (h'++[Ob.row 3 1 [[i64 (-1)]] 0]) (.tl h'.length 0) (-1) n (kU (by rw[qr rfl];rfl)) zb zb) ?_;rintro _ h4 ⟨L,id,st,rfl,n1,hid,rfl,ν⟩;have hlen':h.length+2<h'.length:=(zj.1 A.box).1;simp only[zp,List.length_cons,List.length_nil] at hid;obtain⟨h5,I⟩:∃h5,h5=h'++[Ob.row 3 1 [[i64 (-1)]] 0]++L:=⟨_,rfl⟩;have hp5:Pre h0 h5:=by rw[I];exact(A.pre.app (zW rfl)).app n1
  have b5:h5[h.length+2]? =some (.box 134 [.tl (h.length+1) 0]):=by rw[I,zq];exact hbx _
  have r5:h5[h.length+1]? =some (.row 27 1 (ids.map Zz++List.replicate (n - i) [.v (.slice none 0 0)]) 0):=by rw[I,zq];exact hrw _
  have at5:∀(a:Nat) (p:Nat × Nat),ids[a]? =some p->h5[p.1]? =some (.row 3 1 ((V9 n a).map qQ) p.2):=λa p q=>by
   rw[I,zq];exact zk (A.at_ a p q).2
  rw[<-I] at ν;obtain⟨R,hR⟩:∃R,R=ids.map Zz++List.replicate (n - i) [AV.v (.slice none 0 0)]:=⟨_,rfl⟩;rw[<-hR] at r5 υ
  have hset:R.set i [.tl id st]=(ids++[(id,st)]).map Zz++List.replicate (n - (i+1)) [AV.v (.slice none 0 0)]:=by
   rw[hR,qd _ _ (by simp[A.len])];simp only[zc,A.len,Nat.sub_self,zD,List.map_cons,List.map_nil];rw[show n - i=(n - (i+1))+1 by omega,List.replicate_succ];simp
  have rI:R[i]? =some [AV.v (.slice none 0 0)]:=by
   rw[hR,zM (by simp[A.len]),zc,A.len,Nat.sub_self,List.getElem?_replicate,if_pos zb]
  have s1:∀o,(h5.set (h.length+1) o)[h.length+1]? =some o:=λo=>zt r5;have s2:∀o,(h5.set (h.length+1) o)[h.length+2]? =some (.box 134 [.tl (h.length+1) 0]):=λo=>by rw[zf zb];exact b5
  have s3:∀o,(h5.set (h.length+1) o)[id]? =some (.row 3 1 (List.replicate n [i64 (-1)]) st):=λo=>by rw[zf zb];exact ν
  have s4:(R.set i [.tl id st])[i]? =some [.tl id st]:=zr zb;have s5:(R.set i [.tl id st]).length=n:=by rw[qP];exact υ
  have s7:(List.replicate n [i64 (-1)])[i]? =some [i64 (-1)]:=by rw[List.getElem?_replicate,if_pos J]
  have s6:(List.replicate n [i64 (-1)]).length=n:=qu;rw[<-I];simp only[go_sem,t3,ι,b5,r5,υ,hil,rI,s1,s2,s3,s4,s5,s6,s7,Int.toNat_natCast,zd];have ξ:∀(a:Nat) (p:Nat × Nat),ids[a]? =some p->p.1<h'.length:=λa p q=>(zj.1 (A.at_ a p q).2).1
  have hF:TabIn h0 ((h5.set (h.length+1) (.row 27 1 (R.set i [.tl id st]) 0)).set id (.row 3 1 ((List.replicate n [i64 (-1)]).set i [i64 0]) st)) (h.length+1) n (i+1) (ids++[(id,st)]):=by
   refine⟨(hp5.set zb rfl).set zb rfl,?_,?_,by simp[A.len],λa p q=>?_,?_⟩
   ·rw[zf zb,s1,hset]
   ·rw[zf zb];exact s2 _
   ·by_cases ha:a<i
    ·rw[zH (by rw[A.len];exact ha)] at q;have h1:=A.at_ a p q;have h2:=ξ a p q;exact⟨h1.1,by rw[zf zb,zf zb];exact at5 a p q⟩
    ·have hai:a=i:=by
      have:=(zj.1 q).1;simp[A.len] at this;omega
     subst hai;rw[zM (by rw[A.len];exact zB _),A.len,Nat.sub_self] at q;injection q with q;subst q;refine⟨by simp only;omega,?_⟩;rw[zt (s3 _)];simp[V9,qQ,List.map_set]
   ·rw[zD,List.nodup_append];refine⟨A.nd,zh,λx hx y hy=>?_⟩;obtain⟨p,hp,rfl⟩:=zQ.1 hx;obtain⟨a,ha⟩:=List.mem_iff_getElem?.1 hp;have:=ξ a p ha;simp at hy;omega
  exact⟨n - (i+1),zb,i+1,ids++[(id,st)],zb,hF,t1,η,qh zb rfl,rfl⟩
 ·have hge:n<=i:=jO e;have W:i=n:=zb;subst W;have d:=A.full;have l:=A.pre;have Q:∀(a:Nat) (p:Nat × Nat),ids[a]? =some p->h0.length<=p.1:=λa p q=>by have:=(A.at_ a p q).1;omega
  clear A hi
  have E:∀ {h':List Ob},Pre h0 h'->h'[h.length]? =some (.box 30 (zN s a)):=λ{h'} q=>by
   obtain⟨L,rfl,_⟩:=q;exact zk h30
  have F:=E l;have hwr:∀ {h':List Ob},Pre h0 h'->SlOf h' a.w 3 (s.ways.map yR):=λ{h'} q=>(q.sin k0).w;have P:=hwr l;have q0:=l.sin k0;simp only[go_sem,t1,t3,F,P.rows,P.one,q0.e.one,q0.c.one,q0.g.one,q0.r.one,q0.t.one,zc]
  refine wp_loop_a ze (λm T h'=>∃(j:Nat),j<=s.ways.length/\Pre h0 h'/\TabAt h' (h.length+2) (h.length+1) 0 ids ((s.ways.take j).foldl QB (kV i)) i/\T 1= .ptr h.length 0/\T 3= .ptr (h.length+2) 0/\T 5= .fn (.func 143) [] [.ptr (h.length+2) 0]/\T 39=a.w/\T 40=i64 s.ways.length/\T 41=i64 j/\m=s.ways.length - j) s.ways.length
   ⟨0,zb,l,d,by simp only[go_sem,t1],by simp only[go_sem,t3],zo,zo,zo,by(simp only[go_sem]<;>rfl),rfl⟩ ?_
  clear t1 t3 η ι d l F P q0;rintro m T h' ⟨j,hj,l,d,t1,t3,t5,t39,ο,δ,rfl⟩;have P:=hwr l;simp only[go_sem,ο,δ];refine ways (λe=>?_) (λe=>?_)
  ·have J:=dlt e;have hee:=P.at (i:=j) (by simpa using J);have U:(s.ways.map yR)[j]? =some (yR s.ways[j]):=(by rw[zw,zg J];rfl);have hkl:(j:Int)<s.ways.length:=zb;have W:=hways s.ways[j] (zx J)
   have H:(s.ways.take (j+1)).foldl QB (kV i)=QB ((s.ways.take j).foldl QB (kV i)) s.ways[j]:=by
    rw[<-zG J,qK];rfl
   obtain⟨w,hw⟩:∃w,w=s.ways[j]:=⟨_,rfl⟩;rw[<-hw] at U W H;obtain⟨w1,w2,Z⟩:=w;simp only at W;obtain⟨⟨i1,i2⟩,i3,i4⟩:=W;obtain⟨S,rfl⟩:=Int.eq_ofNat_of_zero_le i1;obtain⟨V,rfl⟩:=Int.eq_ofNat_of_zero_le i3;obtain⟨D,hD⟩:∃D,D=(s.ways.take j).foldl QB (kV i):=⟨_,rfl⟩;rw[<-hD] at d H;have ha:S<i:=zb;have hb:V<i:=zb;obtain⟨pa,a1,a2,a3⟩:=d.ix ha;obtain⟨pb,b1,b2,b3⟩:=d.ix hb;have hA:List.length (yR ((S:Int),(V:Int),Z))=3:=rfl;have hw3:yR ((S:Int),(V:Int),Z)=[i64 S,i64 V,i64 Z]:=rfl;rw[hw3] at U;simp only[go_sem,t39,δ,t5,hee,P.rows,U,hkl,zc,Int.toNat_natCast,zd];refine zl (c110 (h'++[Ob.box 125 [i64 S,i64 V,i64 Z]]) (h.length+2) (h.length+1) 0 ids D i S V Z pa (d.app _) ha hb a1) ?_;rintro _ h4 ⟨rfl,rfl⟩;have ε:=(d.app [Ob.box 125 [i64 S,i64 V,i64 Z]]).near (b:=V) (v:=Z) a1 ha
   have g1:∀o,((h'++[Ob.box 125 [i64 S,i64 V,i64 Z]]).set pa.1 o)[h'.length]? =some (.box 125 [i64 S,i64 V,i64 Z]):=λo=>by
    rw[zf zb,qr rfl];rfl
   simp only[go_sem,t5,g1];refine zl (c110 _ (h.length+2) (h.length+1) 0 ids _ i V S Z pb ε hb ha b1) ?_;rintro _ h4 ⟨rfl,rfl⟩;have ht3:=ε.near (b:=S) (v:=Z) b1 hb;simp only[go_sem,δ];exact⟨s.ways.length - (j+1),zb,j+1,zb,((l.app (zW rfl)).set (Q _ _ a1) rfl).set (Q _ _ b1) rfl,by rw[H];exact ht3,t1,t3,t5,t39,ο,qh (by have:=f.nw;omega) rfl,rfl⟩
  ·have hge2:=jO e;have hj2:j=s.ways.length:=zb;subst hj2;rw[qR] at d;obtain⟨D0,hD0⟩:∃D0,D0=s.ways.foldl QB (kV i):=⟨_,rfl⟩;rw[<-hD0] at d;have F:=E l;simp only[go_sem,t1,t3,F,κ]
   refine wp_loop_a ze (λm T h'=>∃(y:Nat),y<=i/\Pre h0 h'/\TabAt h' (h.length+2) (h.length+1) 0 ids ((List.range y).foldl (Ja i) D0) i/\T 1= .ptr h.length 0/\T 3= .ptr (h.length+2) 0/\T 5= .fn (.func 143) [] [.ptr (h.length+2) 0]/\T 63=i64 i/\T 64=i64 y/\m=i - y) i
    ⟨0,zb,l,d,by simp only[go_sem,t1],by simp only[go_sem,t3],by simp only[go_sem,t5],zo,by(simp only[go_sem]<;>rfl),rfl⟩ ?_
   clear t1 t3 t5 t39 ο δ d l F;rintro m T h' ⟨y,hy,l,d,t1,t3,t5,z,u,rfl⟩;simp only[go_sem,z,u];refine ways (λe=>?_) (λe=>?_)
   ·have O:y<i:=dlt e
    have hfy:(List.range (y+1)).foldl (Ja i) D0=Ja i ((List.range y).foldl (Ja i) D0) y:=by
     rw[List.range_succ,qK];rfl
    obtain⟨D1,hD1⟩:∃D1,D1=(List.range y).foldl (Ja i) D0:=⟨_,rfl⟩;rw[<-hD1] at d hfy;have F:=E l;refine zz ?_;refine Yh ze ?_;simp only[go_sem,t1,F,κ]
    refine wp_loop_a ze (λm T h'=>∃(x:Nat),x<=i/\Pre h0 h'/\TabAt h' (h.length+2) (h.length+1) 0 ids ((List.range x).foldl (wR i y) D1) i/\T 1= .ptr h.length 0/\T 3= .ptr (h.length+2) 0/\T 5= .fn (.func 143) [] [.ptr (h.length+2) 0]/\T 63=i64 i/\T 64=i64 y/\T 8=i64 y/\T 68=i64 i/\T 69=i64 x/\m=i - x) i
     ⟨0,zb,l,d,by simp only[go_sem,t1],by simp only[go_sem,t3],by simp only[go_sem,t5],by simp only[go_sem,z],by simp only[go_sem,u],by simp only[go_sem,u],zo,by(simp only[go_sem]<;>rfl),rfl⟩ ?_
    clear t1 t3 t5 z u d l F;rintro m T h' ⟨x,hx,l,d,t1,t3,t5,z,u,t8,G,C,rfl⟩;simp only[go_sem,G,C];refine ways (λe=>?_) (λe=>?_)
    ·have K:x<i:=dlt e
     have σ:(List.range (x+1)).foldl (wR i y) D1=wR i y ((List.range x).foldl (wR i y) D1) x:=by
      rw[List.range_succ,qK];rfl
     obtain⟨D2,hD2⟩:∃D2,D2=(List.range x).foldl (wR i y) D1:=⟨_,rfl⟩;rw[<-hD2] at d σ;obtain⟨px,x1,x2,x3⟩:=d.ix K;obtain⟨py,y1,y2,y3⟩:=d.ix O;obtain⟨X,X1,X2,X3⟩:=d.rd x1 K;obtain⟨Y,Y1,Y2,Y3⟩:=d.rd y1 O;have θ:=X3 y O;have bx:=d.box;have rx:=d.row;have lx:(x:Int)<(ids.length:Int):=(by rw[d.len];omega);have ly:(y:Int)<(ids.length:Int):=(by rw[d.len];omega);have lX:(y:Int)<(X.length:Int):=(by rw[X2];omega);simp only[go_sem,t3,t8,C,bx,rx,x2,X1,θ,lx,lX,zc,Int.toNat_natCast,zd];cases f1:qm D2 x y== -1
     ·have g1:¬ qm D2 x y= -1:=(by simpa using f1);simp only[go_sem,f1,t3,t8,bx,rx,y2,Y1,Y2,ly,zc,Int.toNat_natCast,zd]
      refine wp_loop_a ze (λm T h'=>∃(b:Nat),b<=i/\Pre h0 h'/\TabAt h' (h.length+2) (h.length+1) 0 ids ((List.range b).foldl (λD b=>vp b y x D) D2) i/\T 1= .ptr h.length 0/\T 3= .ptr (h.length+2) 0/\T 5= .fn (.func 143) [] [.ptr (h.length+2) 0]/\T 63=i64 i/\T 64=i64 y/\T 8=i64 y/\T 9=i64 x/\T 68=i64 i/\T 69=i64 x/\T 83= .tl py.1 py.2/\T 84=i64 i/\T 85=i64 b/\m=i - b) i
       ⟨0,zb,l,d,by simp only[go_sem,t1],by simp only[go_sem,t3],by simp only[go_sem,t5],by simp only[go_sem,z],by simp only[go_sem,u],by simp only[go_sem,t8],zo,by simp only[go_sem,G],by simp only[go_sem,C],zo,zo,by(simp only[go_sem]<;>rfl),rfl⟩ ?_
      clear t1 t3 t5 z u t8 G C d l bx rx X1 Y1 θ;rintro m T h' ⟨b,hb,l,d,t1,t3,t5,z,u,t8,t9,G,C,ψ,φ,γ,rfl⟩;simp only[go_sem,φ,γ];refine ways (λe=>?_) (λe=>?_)
      ·have ρ:b<i:=dlt e
       have χ:(List.range (b+1)).foldl (λD b=>vp b y x D) D2=vp b y x ((List.range b).foldl (λD b=>vp b y x D) D2):=by
        rw[List.range_succ,qK];rfl
       obtain⟨D3,hD3⟩:∃D3,D3=(List.range b).foldl (λD b=>vp b y x D) D2:=⟨_,rfl⟩;rw[<-hD3] at d χ;obtain⟨X,X1,X2,X3⟩:=d.rd x1 K;obtain⟨Y,Y1,Y2,Y3⟩:=d.rd y1 O;have θ:=X3 y O;have hYb:=Y3 b ρ;have bx:=d.box;have rx:=d.row;have lX:(y:Int)<(X.length:Int):=(by rw[X2];omega);have lY:(b:Int)<(Y.length:Int):=(by rw[Y2];omega);simp only[go_sem,ψ,γ,Y1,hYb,lY,zc,Int.toNat_natCast,zd];refine ways (λe2=>?_) (λe2=>?_)
       ·have g2:qm D3 y b≠ -1:=(by simpa using e2);simp only[go_sem,t3,t5,t8,t9,bx,rx,x2,X1,θ,lx,lX,zc,Int.toNat_natCast,zd];refine qx (c110 _ (h.length+2) (h.length+1) 0 ids _ i x b _ px d K ρ x1) ?_;have ε:=d.near (b:=b) (v:=wr (qm D3 x y+qm D3 y b)) x1 K;simp only[go_sem,γ];exact⟨i - (b+1),zb,b+1,zb,l.set (Q _ _ x1) rfl,by rw[χ];unfold vp;rw[if_pos g2];exact ε,t1,t3,t5,z,u,t8,t9,G,C,ψ,φ,qh zb rfl,rfl⟩
       ·have g2:¬ qm D3 y b≠ -1:=(by simpa using e2);simp only[go_sem,γ];exact⟨i - (b+1),zb,b+1,zb,l,by rw[χ];unfold vp;rw[if_neg g2];exact d,t1,t3,t5,z,u,t8,t9,G,C,ψ,φ,qh zb rfl,rfl⟩
      ·have ρ:i<=b:=jO e;have hbe:b=i:=zb;subst hbe;simp only[go_sem,C];exact⟨b - (x+1),zb,x+1,zb,l,by rw[σ];unfold wR;rw[if_neg g1];exact d,t1,t3,t5,z,u,t8,G,qh zb rfl,rfl⟩
     ·have g1:qm D2 x y= -1:=(by simpa using f1);simp only[go_sem,f1,C];exact⟨i - (x+1),zb,x+1,zb,l,by rw[σ];unfold wR;rw[if_pos g1];exact d,t1,t3,t5,z,u,t8,G,qh zb rfl,rfl⟩
    ·have K:i<=x:=jO e;have hxe:x=i:=zb;subst hxe;simp only[go_sem,u];exact⟨x - (y+1),zb,y+1,zb,l,by rw[hfy];exact d,t1,t3,t5,z,qh zb rfl,rfl⟩
   ·have O:i<=y:=jO e;have hye:y=i:=zb;subst hye;have bx:=d.box;simp only[go_sem,t3,bx];have hlen0:h0=h++[Ob.box 30 (zN s a)]:=N
    have hpr:Pre h h':=by
     have:Pre h h0:=⟨_,N,zW rfl⟩;exact this.trans l
    obtain⟨L,rfl,hN⟩:=hpr;refine⟨.tl (h.length+1) 0,zo,.inl ⟨L,h.length+1,0,ids,h.length+2,rfl,hN,rfl,?_⟩⟩
    have:xH s=(List.range y).foldl (Ja y) D0:=by
     unfold xH;rw[<-hn,hD0]
    rw[this];exact d
end
