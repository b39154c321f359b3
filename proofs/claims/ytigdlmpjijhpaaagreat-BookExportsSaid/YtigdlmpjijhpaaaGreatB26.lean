import Derived.Test.YtigdlmpjijhpaaaGreatBA
import Derived.Test.YtigdlmpjijhpaaaGreatB25
import Derived.Test.YtigdlmpjijhpaaaGreatB23
set_option linter.all false
namespace Go.Proofs.YtigdlmpjijhpaaaGreat.Ax
open Go Go.Proofs
set_option maxRecDepth 100000
attribute [go_sem] WVa KGa Q5a Zla
abbrev XF(p:Nat × Nat):List AV:=[.tl p.1 p.2]
theorem Wu{D:Mat}{a:Nat}(b:a<D.length)(r:List Int):(D.set a r).getD a []=r:=by
 rw[zT,zo b]
 rfl
structure TabAt (h:List Ob) (o out st:Nat) (ids:List (Nat × Nat)) (D:Mat) (n:Nat):Prop where
 box:h[o]? =some (.box 322 [.tl out st])
 row:h[out]? =some (.row 27 1 (ids.map XF) st)
 len:ids.length=n
 sq:Sq n D
 at_:∀(a:Nat) (p:Nat × Nat),ids[a]? =some p->h[p.1]? =some (.row 3 1 ((D.getD a []).map qB) p.2)
 nd:(ids.map (·.1)).Nodup
theorem TabAt.app{h:List Ob}{o out st:Nat}{ids:List (Nat × Nat)}{D:Mat}{n:Nat}(k:TabAt h o out st ids D n)(M:List Ob):TabAt (h++M) o out st ids D n:=
 ⟨zf k.box,zf k.row,k.len,k.sq,λa p q=>zf (k.at_ a p q),k.nd⟩
theorem TabAt.set{h:List Ob}{o out st:Nat}{ids:List (Nat × Nat)}{D:Mat}{n:Nat}(k:TabAt h o out st ids D n){a:Nat}{p:Nat × Nat}(f:ids[a]? =some p)(r:List Int)(m:r.length=n)(j:a<n):TabAt (h.set p.1 (.row 3 1 (r.map qB) p.2)) o out st ids (D.set a r) n:=by
 have c:=k.at_ a p f
 have u:p.1≠o:=λq=>by rw[q,k.box] at c;cases c
 have s:p.1≠out:=λq=>by rw[q,k.row] at c;injection c with c;injection c with h1;cases h1
 refine⟨by rw[zc u];exact k.box,by rw[zc s];exact k.row,k.len,⟨by rw[zz];exact k.sq.1,λx l=>?_⟩,λb q d=>?_,k.nd⟩
 ·rcases List.mem_or_eq_of_mem_set l with l|rfl
  ·exact k.sq.2 x l
  ·exact m
 ·by_cases i:b=a
  ·subst i
   rw[f] at d;injection d with d;subst d
   rw[zq c,zT,zo (by rw[k.sq.1];exact j)]
   rfl
  ·have g:p.1≠q.1:=λe=>by
    have w:a<ids.length:=(zd.1 f).1
    have y:b<ids.length:=(zd.1 d).1
    have v:(ids.map (·.1))[a]? =some p.1:=by rw[zx,f];rfl
    have t:(ids.map (·.1))[b]? =some q.1:=by rw[zx,d];rfl
    have:=(List.getElem?_inj (by simpa using w) k.nd).1 (v.trans (by rw[t,e]))
    exact i this.symm
   rw[zc g,k.at_ b q d,zT,zT,zc (Ne.symm i)]
theorem Xza{n:Nat}{D:Mat}(h:Sq n D){a b:Nat}{v:Int}(c:a<n):wj D a b v=D.set a ((wj D a b v).getD a []):=by
 obtain⟨r,e,d,f⟩:=VH h c
 unfold wj
 split
 ·unfold JN
  rw[Wu (by rw[h.1];exact c)]
 ·rw[d]
  apply qP
  intro i
  by_cases hi:i=a
  ·subst hi;rw[e,zo (by rw[h.1];exact c)]
  ·rw[zc (Ne.symm hi)]
theorem XAa{n:Nat}{D:Mat}(h:Sq n D){a b:Nat}{v:Int}(c:a<n):((wj D a b v).getD a []).length=n:=by
 obtain⟨r,f,e,d⟩:=VH (WW h a b v) c
 rw[e];exact d
theorem YZa(h:List Ob)(o out st:Nat)(ids:List (Nat × Nat))(D:Mat)(n a b:Nat)(v:Int)(p:Nat × Nat)(k:TabAt h o out st ids D n)(C:a<n)(G:b<n)(z:ids[a]? =some p):
  ACalls Tryz.prog 290 [i64 a,i64 b,i64 v,.ptr o 0] h λr h'=>r= .tup []/\h'=h.set p.1 (.row 3 1 (((wj D a b v).getD a []).map qB) p.2):=by
 obtain⟨r,H,A,F⟩:=VH k.sq C
 have d:=k.at_ a p z
 have g:(ids.map XF)[a]? =some [.tl p.1 p.2]:=by rw[zx,z];rfl
 have c:((D.getD a []).map qB)[b]? =some [i64 (kD D a b)]:=by
  unfold kD
  rw[A,zx,zi (by omega),zT,zi (by omega)]
  rfl
 have w:(a:Int)<(ids.length:Int):=by rw[k.len];omega
 have l2:(b:Int)<((D.getD a []).length:Int):=by rw[A,F];omega
 have f:((D.getD a []).map qB).set b [i64 v]=((JN D a b v).getD a []).map qB:=by
  unfold JN
  rw[Wu (by rw[k.sq.1];exact C),List.map_set]
  rfl
 obtain⟨m,l⟩:∃m,m=kD D a b:=⟨_,rfl⟩
 obtain⟨i,j⟩:∃i,i=(D.getD a []).map qB:=⟨_,rfl⟩
 have E:(D.getD a []).length=i.length:=by rw[j,zb]
 rw[<-j] at d c f
 rw[<-l] at c
 rw[E] at l2
 have u:=k.box
 have rx:=k.row
 refine zj Tryz.f290 [] 33 rfl rfl rfl rfl rfl rfl (by decide) (⟨_,_,⟨rfl,rfl⟩,qj d rfl⟩) λB=>?_
 simp only[go_sem,u,rx,g,d,c,w,l2,zb,Int.toNat_natCast,zh]
 cases t:m== -1
 ·have x:¬ kD D a b= -1:=by rw[<-l];simpa using t
  simp only[go_sem,t,qD,u,rx,g,d,c,w,l2,zb,Int.toNat_natCast,zh]
  refine ways (λe=>?_) (λe=>?_)
  ·have y:v<kD D a b:=by rw[<-l];simpa using e
   have s:wj D a b v=JN D a b v:=by unfold wj;rw[if_pos (.inr y)]
   simp only[go_sem,u,rx,g,d,c,w,l2,zb,Int.toNat_natCast,zh]
   rw[s, <-f]
   exact⟨.tup [],by simp only[go_sem],.inl ⟨rfl,rfl⟩⟩
  ·have y:¬ v<kD D a b:=by rw[<-l];simpa using e
   have s:wj D a b v=D:=by unfold wj;rw[if_neg (λq=>q.elim x y)]
   simp only[go_sem]
   rw[s, <-j,qM d]
   exact⟨.tup [],by simp only[go_sem],.inl ⟨rfl,rfl⟩⟩
 ·have x:kD D a b= -1:=by rw[<-l];simpa using t
  have s:wj D a b v=JN D a b v:=by unfold wj;rw[if_pos (.inl x)]
  simp only[go_sem,t,qD,u,rx,g,d,c,w,l2,zb,Int.toNat_natCast,zh]
  rw[s, <-f]
  exact⟨.tup [],by simp only[go_sem],.inl ⟨rfl,rfl⟩⟩
theorem TabAt.near{h:List Ob}{o out st:Nat}{ids:List (Nat × Nat)}{D:Mat}{n:Nat}(k:TabAt h o out st ids D n){a b:Nat}{v:Int}{p:Nat × Nat}(d:ids[a]? =some p)(c:a<n):TabAt (h.set p.1 (.row 3 1 (((wj D a b v).getD a []).map qB) p.2)) o out st ids (wj D a b v) n:=by
 have:=k.set d ((wj D a b v).getD a []) (XAa k.sq c) c
 rwa[<-Xza k.sq c] at this
theorem TabAt.rd{h:List Ob}{o out st:Nat}{ids:List (Nat × Nat)}{D:Mat}{n:Nat}(k:TabAt h o out st ids D n){a:Nat}{p:Nat × Nat}(d:ids[a]? =some p)(f:a<n):∃X,h[p.1]? =some (.row 3 1 X p.2)/\X.length=n/\∀b,b<n->X[b]? =some [i64 (kD D a b)]:=by
 obtain⟨r,i,c,e⟩:=VH k.sq f
 refine⟨(D.getD a []).map qB,k.at_ a p d,by rw[zb,c,e],λb g=>?_⟩
 unfold kD
 rw[c,zx,zi (by omega),zT,zi (by omega)]
 rfl
theorem TabAt.ix{h:List Ob}{o out st:Nat}{ids:List (Nat × Nat)}{D:Mat}{n:Nat}(k:TabAt h o out st ids D n){a:Nat}(c:a<n):∃p,ids[a]? =some p/\(ids.map XF)[a]? =some [.tl p.1 p.2]/\p.1<h.length:=by
 have d:a<ids.length:=by rw[k.len];exact c
 have b:ids[a]? =some ids[a]:=zi d
 exact⟨ids[a],b,by rw[zx,b];rfl,(zd.1 (k.at_ a _ b)).1⟩
structure TabIn (h0 h:List Ob) (out n i:Nat) (ids:List (Nat × Nat)):Prop where
 pre:Pre h0 h
 row:h[out]? =some (.row 27 1 (ids.map XF++List.replicate (n - i) [.v (.slice none 0 0)]) 0)
 box:h[out+1]? =some (.box 322 [.tl out 0])
 len:ids.length=i
 at_:∀(a:Nat) (p:Nat × Nat),ids[a]? =some p->out+2<=p.1/\h[p.1]? =some (.row 3 1 ((Qca n a).map qB) p.2)
 nd:(ids.map (·.1)).Nodup
theorem XBa{n a:Nat}(b:a<n):(JO n).getD a []=Qca n a:=by
 unfold JO
 rw[zT,zx,List.getElem?_range b]
 rfl
theorem TabIn.full{h0 h:List Ob}{out n:Nat}{ids:List (Nat × Nat)}(k:TabIn h0 h out n n ids):TabAt h (out+1) out 0 ids (JO n) n:=by
 refine⟨k.box,by have:=k.row;rw[Nat.sub_self] at this;simpa using this,k.len,yya n,λa p q=>?_,k.nd⟩
 have b:a<n:=by rw[<-k.len];exact(zd.1 q).1
 rw[XBa b]
 exact(k.at_ a p q).2
theorem VGa{s:Setup}(b:qv s=true):(1<=s.places/\s.places<=16)/\∀w∈s.ways,(0<=w.1/\w.1<s.places)/\(0<=w.2.1/\w.2.1<s.places):=by
 simp only[qv,yH,zl] at b
 have e:=Qj b.1.1.1.1.1
 refine⟨e,λw d=>?_⟩
 have c:=b.1.1.1.2
 simp only[Bool.not_eq_true',List.any_eq_false] at c
 have:=c w d
 have a:wr (s.places - 1)=s.places - 1:=qp (by unfold Fit;omega)
 simp[JC,Qh,z7a,a] at this
 omega
theorem wua(h:List Ob){D:Mat}{n:Nat}(k:Sq n D):∃(L:List Ob) (out st:Nat) (ids:List (Nat × Nat)) (o:Nat),NoRes L/\TabAt (h++L) o out st ids D n:=by
 obtain⟨M,f⟩:∃M,M=D.map λr=>Ob.row 3 1 (r.map qB) 0:=⟨_,rfl⟩
 obtain⟨ids,c⟩:∃ids,ids=(List.range n).map λa=>(h.length+(2+a),0):=⟨_,rfl⟩
 refine⟨.row 27 1 (ids.map XF) 0:: .box 322 [.tl h.length 0]::M,h.length,0,ids,h.length+1,?_,zK (k:=1) rfl,zM rfl,by rw[c];simp,k,λa p d=>?_,?_⟩
 ·refine zr rfl (zr rfl λo e=>?_)
  rw[f] at e
  obtain⟨r,_,rfl⟩:=zw.1 e
  rfl
 ·have g:a<n:=by
   have:=(zd.1 d).1
   rw[c] at this;simpa using this
  rw[c,zx,List.getElem?_range g] at d
  injection d with d
  subst d
  obtain⟨r,j,i,l⟩:=VH k g
  simp only
  rw[zK rfl,show 2+a=a+1+1 by omega,List.getElem?_cons_succ,List.getElem?_cons_succ,f,zx,j,i]
  rfl
 ·rw[c,vi]
  unfold List.Nodup
  rw[List.pairwise_map]
  refine List.Pairwise.imp (λ{a b} h=>?_) (List.nodup_range (n:=n))
  simpa using h
theorem KZ{α:Type}{n:Nat}{f:Mat->α->Mat}(a:∀D x,Sq n D->Sq n (f D x)):∀(l:List α) (D:Mat),Sq n D->Sq n (l.foldl f D)
 | [],_,h=>h
 | x::l,D,h=>KZ a l (f D x) (a D x h)
theorem VHa{n b y a:Nat}{D:Mat}(h:Sq n D):Sq n (Y9 b y a D):=by
 unfold Y9
 split
 ·exact WW h _ _ _
 ·exact h
theorem VIa{n y a:Nat}{D:Mat}(h:Sq n D):Sq n (zaa n y D a):=by
 unfold zaa
 split
 ·exact h
 ·exact KZ (λD x h=>VHa h) _ _ h
theorem VJa{n y:Nat}{D:Mat}(h:Sq n D):Sq n (kha n D y):=KZ (λD x h=>VIa h) _ _ h
theorem XCa(s:Setup):Sq s.places.toNat (ZG s):=
 KZ (λD x h=>VJa h) _ _ (KZ (λD w h=>WW (WW h _ _ _) _ _ _) _ _ (yya _))
set_option maxHeartbeats 2000000 in
theorem c91(h:List Ob)(s:Setup)(a:SA)(k:SIn h s a)(f:SFit s)(hs:qv s=true):
  ACalls Tryz.prog 255 [je s a] h λr h'=>∃(L:List Ob) (out st:Nat) (ids:List (Nat × Nat)) (o:Nat),h'=h++L/\NoRes L/\r= .tl out st/\TabAt h' o out st ids (ZG s) s.places.toNat:=by
 have hex:∃r h',(∃(L:List Ob) (out st:Nat) (ids:List (Nat × Nat)) (o:Nat),h'=h++L/\NoRes L/\r=AV.tl out st/\TabAt h' o out st ids (ZG s) s.places.toNat)/\ResK h h':=by
  obtain⟨L,out,st,ids,o,q1,q2⟩:=wua h (XCa s)
  exact⟨_,_,⟨L,out,st,ids,o,rfl,q1,rfl,q2⟩,qS⟩
 obtain⟨⟨p1,p2⟩,φ⟩:=VGa hs
 obtain⟨n,hn⟩:∃n:Nat,n=s.places.toNat:=⟨_,rfl⟩
 have ζ:s.places=(n:Int):=by omega
 have hnb:(n:Int)*25<=140737488355328:=by omega
 refine zj Tryz.f255 [.tmp 2] 109 rfl rfl rfl rfl rfl rfl (by decide) (hex) λB=>?_
 simp only[go_sem,k.w.one,k.e.one,k.c.one,k.g.one,k.r.one,k.t.one]
 refine zg (c16 _ s a (k.app _) f) ?_
 rintro _ h1 ⟨rfl,e2⟩
 subst e2
 obtain⟨h0,J⟩:∃h0,h0=h++[Ob.box 30 (qd s a)]:=⟨_,rfl⟩
 have hl0:h0.length=h.length+1:=by rw[J];simp
 have h30:h0[h.length]? =some (.box 30 (qd s a)):=by rw[J];exact zM rfl
 have k0:SIn h0 s a:=by rw[J];exact k.app _
 have hP:(h++[Ob.box 30 (qd s a)])[h.length]? =some (.box 30 (qd s a)):=zM rfl
 simp only[go_sem,hs,Bool.not_true,ζ,hnb,Int.toNat_natCast,zh]
 refine zP (by decide) (λm T h'=>∃(i:Nat) (ids:List (Nat × Nat)),i<=n/\TabIn h0 h' (h.length+1) n i ids/\T 1= .ptr h.length 0/\T 3= .ptr (h.length+2) 0/\T 19=i64 n/\T 20=i64 i/\m=n - i) n
  ⟨0,[],by omega,⟨⟨_,by rw[J,zp];rfl,zr rfl (zG rfl)⟩,by rw[zK (k:=1) rfl];rfl,by rw[zK (k:=2) rfl];rfl,rfl,λ_ _ q=>by simp at q,.nil⟩,by simp only[go_sem],by simp only[go_sem],by simp only[go_sem],by(simp only[go_sem]<;>rfl),rfl⟩ ?_
 rintro m T h' ⟨i,ids,hi,A,t1,t3,α,θ,rfl⟩
 simp only[go_sem,α,θ]
 refine ways (λe=>?_) (λe=>?_)
 ·have I:i<n:=dlt e
  have E:∀M,(h'++M)[h.length]? =some (.box 30 (qd s a)):=λM=>by
   obtain⟨L,rfl,_⟩:=A.pre
   rw[zp];exact zf h30
  have hbx:∀M,(h'++M)[h.length+2]? =some (.box 322 [.tl (h.length+1) 0]):=λM=>zf A.box
  have hrw:∀M,(h'++M)[h.length+1]? =some (.row 27 1 (ids.map XF++List.replicate (n - i) [.v (.slice none 0 0)]) 0):=λM=>zf A.row
  have ν:(ids.map XF++List.replicate (n - i) [AV.v (.slice none 0 0)]).length=n:=by simp[A.len];omega
  have hil:(i:Int)<(n:Int):=by omega
  simp only[go_sem]
  refine zV rfl [.res] 1 [(1,0,[]),(3,0,[]),(0,0,[]),(4,0,[]),(2,0,[]),(5,0,[0]),(6,0,[]),(7,0,[])] rfl (by decide) (by decide) ?_
  simp only[go_sem,t1,t3,α,θ,hbx,hrw,E,ζ]
  refine zg (xub (h'++[Ob.row 3 1 [[i64 (-1)]] 0]) (.tl h'.length 0) (-1) n (yW (by rw[zM rfl];rfl)) (by omega) (by omega)) ?_
  rintro _ h4 ⟨L,id,st,rfl,n1,hid,rfl,ι⟩
  have hlen':h.length+2<h'.length:=(zd.1 A.box).1
  simp only[ze,List.length_cons,List.length_nil] at hid
  obtain⟨Z,H⟩:∃Z,Z=h'++[Ob.row 3 1 [[i64 (-1)]] 0]++L:=⟨_,rfl⟩
  have hp5:Pre h0 Z:=by rw[H];exact(A.pre.app (zG rfl)).app n1
  have b5:Z[h.length+2]? =some (.box 322 [.tl (h.length+1) 0]):=by rw[H,zp];exact hbx _
  have r5:Z[h.length+1]? =some (.row 27 1 (ids.map XF++List.replicate (n - i) [.v (.slice none 0 0)]) 0):=by rw[H,zp];exact hrw _
  have at5:∀(a:Nat) (p:Nat × Nat),ids[a]? =some p->Z[p.1]? =some (.row 3 1 ((Qca n a).map qB) p.2):=λa p q=>by
   rw[H,zp];exact zf (A.at_ a p q).2
  rw[<-H] at ι
  obtain⟨R,hR⟩:∃R,R=ids.map XF++List.replicate (n - i) [AV.v (.slice none 0 0)]:=⟨_,rfl⟩
  rw[<-hR] at r5 ν
  have hset:R.set i [.tl id st]=(ids++[(id,st)]).map XF++List.replicate (n - (i+1)) [AV.v (.slice none 0 0)]:=by
   rw[hR,zL _ _ (by simp[A.len])]
   simp only[zb,A.len,Nat.sub_self,zy,List.map_cons,List.map_nil]
   rw[show n - i=(n - (i+1))+1 by omega,List.replicate_succ]
   simp
  have rI:R[i]? =some [AV.v (.slice none 0 0)]:=by
   rw[hR,zQ (by simp[A.len]),zb,A.len,Nat.sub_self,List.getElem?_replicate,if_pos (by omega)]
  have s1:∀o,(Z.set (h.length+1) o)[h.length+1]? =some o:=λo=>zq r5
  have s2:∀o,(Z.set (h.length+1) o)[h.length+2]? =some (.box 322 [.tl (h.length+1) 0]):=λo=>by rw[zc (by omega)];exact b5
  have s3:∀o,(Z.set (h.length+1) o)[id]? =some (.row 3 1 (List.replicate n [i64 (-1)]) st):=λo=>by rw[zc (by omega)];exact ι
  have s4:(R.set i [.tl id st])[i]? =some [.tl id st]:=zo (by omega)
  have s5:(R.set i [.tl id st]).length=n:=by rw[zz];exact ν
  have s7:(List.replicate n [i64 (-1)])[i]? =some [i64 (-1)]:=by rw[List.getElem?_replicate,if_pos I]
  have s6:(List.replicate n [i64 (-1)]).length=n:=qZ
  rw[<-H]
  simp only[go_sem,t3,θ,b5,r5,ν,hil,rI,s1,s2,s3,s4,s5,s6,s7,Int.toNat_natCast,zh]
  have κ:∀(a:Nat) (p:Nat × Nat),ids[a]? =some p->p.1<h'.length:=λa p q=>(zd.1 (A.at_ a p q).2).1
  have hF:TabIn h0 ((Z.set (h.length+1) (.row 27 1 (R.set i [.tl id st]) 0)).set id (.row 3 1 ((List.replicate n [i64 (-1)]).set i [i64 0]) st)) (h.length+1) n (i+1) (ids++[(id,st)]):=by
   refine⟨(hp5.set (by omega) rfl).set (by omega) rfl,?_,?_,by simp[A.len],λa p q=>?_,?_⟩
   ·rw[zc (by omega),s1,hset]
   ·rw[zc (by omega)];exact s2 _
   ·by_cases ha:a<i
    ·rw[zH (by rw[A.len];exact ha)] at q
     have h1:=A.at_ a p q
     have h2:=κ a p q
     exact⟨h1.1,by rw[zc (by omega),zc (by omega)];exact at5 a p q⟩
    ·have hai:a=i:=by
      have:=(zd.1 q).1
      simp[A.len] at this
      omega
     subst hai
     rw[zQ (by rw[A.len];exact zn _),A.len,Nat.sub_self] at q
     injection q with q
     subst q
     refine⟨by simp only;omega,?_⟩
     rw[zq (s3 _)]
     simp[Qca,qB,List.map_set]
   ·rw[zy,List.nodup_append]
    refine⟨A.nd,by simp,λx hx y hy=>?_⟩
    obtain⟨p,hp,rfl⟩:=zw.1 hx
    obtain⟨a,ha⟩:=List.mem_iff_getElem?.1 hp
    have:=κ a p ha
    simp at hy
    omega
  exact⟨n - (i+1),by omega,i+1,ids++[(id,st)],by omega,hF,t1,α,qm (by omega) rfl,rfl⟩
 ·have hge:n<=i:=xb e
  have U:i=n:=by omega
  subst U
  have d:=A.full
  have l:=A.pre
  have Q:∀(a:Nat) (p:Nat × Nat),ids[a]? =some p->h0.length<=p.1:=λa p q=>by have:=(A.at_ a p q).1;omega
  clear A hi
  have E:∀ {h':List Ob},Pre h0 h'->h'[h.length]? =some (.box 30 (qd s a)):=λ{h'} q=>by
   obtain⟨L,rfl,_⟩:=q
   exact zf h30
  have C:=E l
  have hwr:∀ {h':List Ob},Pre h0 h'->SlOf h' a.w 3 (s.ways.map XW):=λ{h'} q=>(q.sin k0).w
  have K:=hwr l
  have q0:=l.sin k0
  simp only[go_sem,t1,t3,C,K.rows,K.one,q0.e.one,q0.c.one,q0.g.one,q0.r.one,q0.t.one,zb]
  refine zP (by decide) (λm T h'=>∃(j:Nat),j<=s.ways.length/\Pre h0 h'/\TabAt h' (h.length+2) (h.length+1) 0 ids ((s.ways.take j).foldl wka (JO i)) i/\T 1= .ptr h.length 0/\T 3= .ptr (h.length+2) 0/\T 5= .fn (.func 290) [] [.ptr (h.length+2) 0]/\T 39=a.w/\T 40=i64 s.ways.length/\T 41=i64 j/\m=s.ways.length - j) s.ways.length
   ⟨0,by omega,l,d,by simp only[go_sem,t1],by simp only[go_sem,t3],by simp only[go_sem],by simp only[go_sem],by simp only[go_sem],by(simp only[go_sem]<;>rfl),rfl⟩ ?_
  clear t1 t3 α θ d l C K q0
  rintro m T h' ⟨j,hj,l,d,t1,t3,t5,t39,υ,ε,rfl⟩
  have K:=hwr l
  simp only[go_sem,υ,ε]
  refine ways (λe=>?_) (λe=>?_)
  ·have I:=dlt e
   have hee:=K.at (i:=j) (by simpa using I)
   have W:(s.ways.map XW)[j]? =some (XW s.ways[j]):=by rw[zx,zi I];rfl
   have hkl:(j:Int)<s.ways.length:=by omega
   have U:=φ s.ways[j] (zD I)
   have G:(s.ways.take (j+1)).foldl wka (JO i)=wka ((s.ways.take j).foldl wka (JO i)) s.ways[j]:=by
    rw[<-zI I,qY];rfl
   obtain⟨w,hw⟩:∃w,w=s.ways[j]:=⟨_,rfl⟩
   rw[<-hw] at W U G
   obtain⟨w1,w2,S⟩:=w
   simp only at U
   obtain⟨⟨i1,i2⟩,i3,i4⟩:=U
   obtain⟨V,rfl⟩:=Int.eq_ofNat_of_zero_le i1
   obtain⟨P,rfl⟩:=Int.eq_ofNat_of_zero_le i3
   obtain⟨D,hD⟩:∃D,D=(s.ways.take j).foldl wka (JO i):=⟨_,rfl⟩
   rw[<-hD] at d G
   have ha:V<i:=by omega
   have hb:P<i:=by omega
   obtain⟨pa,a1,a2,a3⟩:=d.ix ha
   obtain⟨pb,b1,b2,b3⟩:=d.ix hb
   have hA:List.length (XW ((V:Int),(P:Int),S))=3:=rfl
   have hw3:XW ((V:Int),(P:Int),S)=[i64 V,i64 P,i64 S]:=rfl
   rw[hw3] at W
   simp only[go_sem,t39,ε,t5,hee,K.rows,W,hkl,zb,Int.toNat_natCast,zh]
   refine zg (YZa (h'++[Ob.box 225 [i64 V,i64 P,i64 S]]) (h.length+2) (h.length+1) 0 ids D i V P S pa (d.app _) ha hb a1) ?_
   rintro _ h4 ⟨rfl,rfl⟩
   have η:=(d.app [Ob.box 225 [i64 V,i64 P,i64 S]]).near (b:=P) (v:=S) a1 ha
   have g1:∀o,((h'++[Ob.box 225 [i64 V,i64 P,i64 S]]).set pa.1 o)[h'.length]? =some (.box 225 [i64 V,i64 P,i64 S]):=λo=>by
    rw[zc (by omega),zM rfl];rfl
   simp only[go_sem,t5,g1]
   refine zg (YZa _ (h.length+2) (h.length+1) 0 ids _ i P V S pb η hb ha b1) ?_
   rintro _ h4 ⟨rfl,rfl⟩
   have ht3:=η.near (b:=V) (v:=S) b1 hb
   simp only[go_sem,ε]
   exact⟨s.ways.length - (j+1),by omega,j+1,by omega,((l.app (zG rfl)).set (Q _ _ a1) rfl).set (Q _ _ b1) rfl,by rw[G];exact ht3,t1,t3,t5,t39,υ,qm (by have:=f.nw;omega) rfl,rfl⟩
  ·have hge2:=xb e
   have hj2:j=s.ways.length:=by omega
   subst hj2
   rw[zZ] at d
   obtain⟨D0,hD0⟩:∃D0,D0=s.ways.foldl wka (JO i):=⟨_,rfl⟩
   rw[<-hD0] at d
   have C:=E l
   simp only[go_sem,t1,t3,C,ζ]
   refine zP (by decide) (λm T h'=>∃(y:Nat),y<=i/\Pre h0 h'/\TabAt h' (h.length+2) (h.length+1) 0 ids ((List.range y).foldl (kha i) D0) i/\T 1= .ptr h.length 0/\T 3= .ptr (h.length+2) 0/\T 5= .fn (.func 290) [] [.ptr (h.length+2) 0]/\T 63=i64 i/\T 64=i64 y/\m=i - y) i
    ⟨0,by omega,l,d,by simp only[go_sem,t1],by simp only[go_sem,t3],by simp only[go_sem,t5],by simp only[go_sem],by(simp only[go_sem]<;>rfl),rfl⟩ ?_
   clear t1 t3 t5 t39 υ ε d l C
   rintro m T h' ⟨y,hy,l,d,t1,t3,t5,z,u,rfl⟩
   simp only[go_sem,z,u]
   refine ways (λe=>?_) (λe=>?_)
   ·have O:y<i:=dlt e
    have hfy:(List.range (y+1)).foldl (kha i) D0=kha i ((List.range y).foldl (kha i) D0) y:=by
     rw[List.range_succ,qY];rfl
    obtain⟨D1,hD1⟩:∃D1,D1=(List.range y).foldl (kha i) D0:=⟨_,rfl⟩
    rw[<-hD1] at d hfy
    have C:=E l
    simp only[go_sem]
    refine YZ (by decide) ?_
    simp only[go_sem,t1,C,ζ]
    refine zP (by decide) (λm T h'=>∃(x:Nat),x<=i/\Pre h0 h'/\TabAt h' (h.length+2) (h.length+1) 0 ids ((List.range x).foldl (zaa i y) D1) i/\T 1= .ptr h.length 0/\T 3= .ptr (h.length+2) 0/\T 5= .fn (.func 290) [] [.ptr (h.length+2) 0]/\T 63=i64 i/\T 64=i64 y/\T 8=i64 y/\T 68=i64 i/\T 69=i64 x/\m=i - x) i
     ⟨0,by omega,l,d,by simp only[go_sem,t1],by simp only[go_sem,t3],by simp only[go_sem,t5],by simp only[go_sem,z],by simp only[go_sem,u],by simp only[go_sem,u],by simp only[go_sem],by(simp only[go_sem]<;>rfl),rfl⟩ ?_
    clear t1 t3 t5 z u d l C
    rintro m T h' ⟨x,hx,l,d,t1,t3,t5,z,u,t8,F,t69,rfl⟩
    simp only[go_sem,F,t69]
    refine ways (λe=>?_) (λe=>?_)
    ·have N:x<i:=dlt e
     have ο:(List.range (x+1)).foldl (zaa i y) D1=zaa i y ((List.range x).foldl (zaa i y) D1) x:=by
      rw[List.range_succ,qY];rfl
     obtain⟨D2,hD2⟩:∃D2,D2=(List.range x).foldl (zaa i y) D1:=⟨_,rfl⟩
     rw[<-hD2] at d ο
     obtain⟨px,x1,x2,x3⟩:=d.ix N
     obtain⟨py,y1,y2,y3⟩:=d.ix O
     obtain⟨X,X1,X2,X3⟩:=d.rd x1 N
     obtain⟨Y,Y1,Y2,Y3⟩:=d.rd y1 O
     have β:=X3 y O
     have bx:=d.box
     have rx:=d.row
     have lx:(x:Int)<(ids.length:Int):=by rw[d.len];omega
     have ly:(y:Int)<(ids.length:Int):=by rw[d.len];omega
     have lX:(y:Int)<(X.length:Int):=by rw[X2];omega
     simp only[go_sem,t3,t8,t69,bx,rx,x2,X1,β,lx,lX,zb,Int.toNat_natCast,zh]
     cases f1:kD D2 x y== -1
     ·have g1:¬ kD D2 x y= -1:=by simpa using f1
      simp only[go_sem,f1,t3,t8,bx,rx,y2,Y1,Y2,ly,zb,Int.toNat_natCast,zh]
      refine zP (by decide) (λm T h'=>∃(b:Nat),b<=i/\Pre h0 h'/\TabAt h' (h.length+2) (h.length+1) 0 ids ((List.range b).foldl (λD b=>Y9 b y x D) D2) i/\T 1= .ptr h.length 0/\T 3= .ptr (h.length+2) 0/\T 5= .fn (.func 290) [] [.ptr (h.length+2) 0]/\T 63=i64 i/\T 64=i64 y/\T 8=i64 y/\T 9=i64 x/\T 68=i64 i/\T 69=i64 x/\T 83= .tl py.1 py.2/\T 84=i64 i/\T 85=i64 b/\m=i - b) i
       ⟨0,by omega,l,d,by simp only[go_sem,t1],by simp only[go_sem,t3],by simp only[go_sem,t5],by simp only[go_sem,z],by simp only[go_sem,u],by simp only[go_sem,t8],by simp only[go_sem],by simp only[go_sem,F],by simp only[go_sem,t69],by simp only[go_sem],by simp only[go_sem],by(simp only[go_sem]<;>rfl),rfl⟩ ?_
      clear t1 t3 t5 z u t8 F t69 d l bx rx X1 Y1 β
      rintro m T h' ⟨b,hb,l,d,t1,t3,t5,z,u,t8,t9,F,t69,t83,t84,δ,rfl⟩
      simp only[go_sem,t84,δ]
      refine ways (λe=>?_) (λe=>?_)
      ·have ρ:b<i:=dlt e
       have σ:(List.range (b+1)).foldl (λD b=>Y9 b y x D) D2=Y9 b y x ((List.range b).foldl (λD b=>Y9 b y x D) D2):=by
        rw[List.range_succ,qY];rfl
       obtain⟨D3,hD3⟩:∃D3,D3=(List.range b).foldl (λD b=>Y9 b y x D) D2:=⟨_,rfl⟩
       rw[<-hD3] at d σ
       obtain⟨X,X1,X2,X3⟩:=d.rd x1 N
       obtain⟨Y,Y1,Y2,Y3⟩:=d.rd y1 O
       have β:=X3 y O
       have hYb:=Y3 b ρ
       have bx:=d.box
       have rx:=d.row
       have lX:(y:Int)<(X.length:Int):=by rw[X2];omega
       have lY:(b:Int)<(Y.length:Int):=by rw[Y2];omega
       simp only[go_sem,t83,δ,Y1,hYb,lY,zb,Int.toNat_natCast,zh]
       refine ways (λe2=>?_) (λe2=>?_)
       ·have g2:kD D3 y b≠ -1:=by simpa using e2
        simp only[go_sem,t3,t5,t8,t9,bx,rx,x2,X1,β,lx,lX,zb,Int.toNat_natCast,zh]
        refine zg (YZa _ (h.length+2) (h.length+1) 0 ids _ i x b _ px d N ρ x1) ?_
        rintro _ h4 ⟨rfl,rfl⟩
        have η:=d.near (b:=b) (v:=wr (kD D3 x y+kD D3 y b)) x1 N
        simp only[go_sem,δ]
        exact⟨i - (b+1),by omega,b+1,by omega,l.set (Q _ _ x1) rfl,by rw[σ];unfold Y9;rw[if_pos g2];exact η,t1,t3,t5,z,u,t8,t9,F,t69,t83,t84,qm (by omega) rfl,rfl⟩
       ·have g2:¬ kD D3 y b≠ -1:=by simpa using e2
        simp only[go_sem,δ]
        exact⟨i - (b+1),by omega,b+1,by omega,l,by rw[σ];unfold Y9;rw[if_neg g2];exact d,t1,t3,t5,z,u,t8,t9,F,t69,t83,t84,qm (by omega) rfl,rfl⟩
      ·have ρ:i<=b:=xb e
       have hbe:b=i:=by omega
       subst hbe
       simp only[go_sem,t69]
       exact⟨b - (x+1),by omega,x+1,by omega,l,by rw[ο];unfold zaa;rw[if_neg g1];exact d,t1,t3,t5,z,u,t8,F,qm (by omega) rfl,rfl⟩
     ·have g1:kD D2 x y= -1:=by simpa using f1
      simp only[go_sem,f1,t69]
      exact⟨i - (x+1),by omega,x+1,by omega,l,by rw[ο];unfold zaa;rw[if_pos g1];exact d,t1,t3,t5,z,u,t8,F,qm (by omega) rfl,rfl⟩
    ·have N:i<=x:=xb e
     have hxe:x=i:=by omega
     subst hxe
     simp only[go_sem,u]
     exact⟨x - (y+1),by omega,y+1,by omega,l,by rw[hfy];exact d,t1,t3,t5,z,qm (by omega) rfl,rfl⟩
   ·have O:i<=y:=xb e
    have hye:y=i:=by omega
    subst hye
    have bx:=d.box
    simp only[go_sem,t3,bx]
    have hlen0:h0=h++[Ob.box 30 (qd s a)]:=J
    have hpr:Pre h h':=by
     have:Pre h h0:=⟨_,J,zG rfl⟩
     exact this.trans l
    obtain⟨L,rfl,hN⟩:=hpr
    refine⟨.tl (h.length+1) 0,by simp only[go_sem],.inl ⟨L,h.length+1,0,ids,h.length+2,rfl,hN,rfl,?_⟩⟩
    have:ZG s=(List.range y).foldl (kha y) D0:=by
     unfold ZG
     rw[<-hn,hD0]
    rw[this]
    exact d
