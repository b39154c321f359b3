/-
  Joined.
-/
import Derived.Test.YtigdlmpjijhpaaaGreatK35
import Derived.Test.YtigdlmpjijhpaaaGreatK36
import Derived.Lib.AppendZeros
import Derived.Test.YtigdlmpjijhpaaaGreatK33
import Derived.Test.YtigdlmpjijhpaaaGreatK30
set_option linter.unusedSimpArgs false
set_option linter.unusedVariables false
namespace Go.Proofs.YtigdlmpjijhpaaaGreat.Ax
open Go Go.Proofs Go.Shelf Go.RowKit Go.Lib Go.Sort
set_option maxRecDepth 100000
structure Pt where
 from_:Int
 to_:Int
 kind:Int
instance:Inhabited Pt:=⟨⟨0,0,0⟩⟩
def qVa (x:Pt):List Value:=[.int .i64 x.from_,.int .i64 x.to_,.int .i64 x.kind]
def ptC (x:Pt):List AV:=[i64 x.from_,i64 x.to_,i64 x.kind]
theorem yMa {n:Nat}:∀l:List Pt,qb n (l.map ptC)=true
 | []=>rfl
 | s::l=>by
   rw[List.map_cons,qb,yMa l];rfl
set_option maxHeartbeats 1000000 in
theorem xja (x y:Pt) (W:World):Calls Tryz.prog 121 #[.agg #[.int .i64 x.from_,.int .i64 x.to_,.int .i64 x.kind],.agg #[.int .i64 y.from_,.int .i64 y.to_,.int .i64 y.kind]] W λe w'=>e= .returned (.int .i64 (Lib.compareInt x.from_ y.from_))/\∃q b,w'=grow (W.drewN q) b:=by
 have a:=λc=>AnyG.cmp_Compare_int kQa x.from_ y.from_ c
 change ∀c,Calls Tryz.prog 122 _ _ _ at a
 generalize Lib.compareInt x.from_ y.from_=r at a⊢
 go_enter Tryz.func121,Tryz.ntmps121
 go_wp2_with (go_at_call 122;refine (a _).mono ?_;rintro e w' ⟨rfl,rfl⟩)
 go_ret
 exact ⟨rfl,0,_,by rw[alloc_eq_grow,alloc_eq_grow,grow_grow];rfl⟩
theorem xka (blk off size:Nat) (w:World):CmpLays Tryz.prog 121 #[] qVa 3 (λx y=>Lib.compareInt x.from_ y.from_) blk off size w:=
 λ_ _ _ _ x y=>xja x y _
theorem wWa (x y:Pt):ltOf (λx y:Pt=>Lib.compareInt x.from_ y.from_) x y=decide (x.from_<y.from_):=by
 unfold ltOf Lib.compareInt
 by_cases a:x.from_<y.from_
 ·simp[a]
 ·by_cases b:y.from_<x.from_<;>simp[a,b]
theorem Jda:SWO (ltOf λx y:Pt=>Lib.compareInt x.from_ y.from_):=
 { irrefl:=λx=>by rw[wWa];simp
   trans:=λx y z a b=>by rw[wWa] at *; simp at *; omega
   ntrans:=λx y z a b=>by rw[wWa] at *; simp at *; omega }
theorem wXa (h:List Ob) (id st:Nat) (l:List Pt) (n:h[id]? =some (.row 194 3 (l.map ptC) st)) (m:l.length<1099511627776):
  ACalls Tryz.prog 120 [.tl id st,.fn (.func 121) [] []] h λr h'=>r= .tup []/\∃l':List Pt,l'.Perm l/\(l'.Pairwise λa b=>ltOf (λx y:Pt=>Lib.compareInt x.from_ y.from_) b a=false)/\h'=h.set id (.row 194 3 (l'.map ptC) st):=by
 refine ZJa qVa 3 (by decide) (λ_=>rfl) (ltOf λx y:Pt=>Lib.compareInt x.from_ y.from_) (by kernel_rfl) (λl=>?_) ?_ ?_ h id st l n m
 ·refine ⟨_,List.mergeSort_perm l (λa b=>decide (a.from_<=b.from_)),?_⟩
  have:=List.pairwise_mergeSort (le:=λa b:Pt=>decide (a.from_<=b.from_)) (λa b c p o=>by simp at *; omega) (λa b=>by simp;omega) l
  exact this.imp λh=>by rw[wWa];simpa using h
 ·intro blk off cap d w j f g
  have k:∀args w,(callFunc 121 args).run Tryz.prog w= .ok (.enter 121 args) w:=enters_of Tryz.func121 (by kernel_rfl) rfl
  have e:=AnyQ.slices_SortFunc Ke 3 Tryz.isAgg194 Tryz.sizeOf194 qVa (λ_=>rfl) (λx v i=>by simp[qVa] at i;rcases i with rfl | rfl | rfl<;>rfl) (λx y=>Lib.compareInt x.from_ y.from_) Jda 121 #[] blk off cap d w k (xka blk off d.size w) j f g
  exact e
 ·intro A cap w
  have e:=AnyF.slices_SortFunc_none Ke A cap (.func (.func 121) #[] #[]) w
  exact e
theorem vna (x:AV):jf Tryz.prog 120 [.v (.slice none 0 0),x] (.tup []):=λh=>by
 refine ⟨by kernel_rfl,⟨_,_,⟨rfl,rfl⟩,.refl⟩,?_⟩
 intro φ l B w g vs i hB a
 obtain ⟨v1,k,rfl,d,f,j,rfl,_,c⟩:=a
 have c:j=[]:=c
 subst c
 have d:v1= .slice none 0 0:=d
 subst d
 have b:=AnyF.slices_SortFunc_none Ke none 0 f w
 refine Calls.mono b ?_
 rintro e w' ⟨rfl,rfl⟩
 exact ⟨_,_,_,_,rfl,⟨rfl,rfl⟩,.refl,Good.refl i hB, #[],rfl,rfl⟩
def xF (l:List Spn) (k:Int):List Pt:=l.map λs=>⟨s.from_,s.to_,k⟩
theorem kU (l:List Spn) (k:Int):(xF l k).length=l.length:=by simp[xF]
theorem ZKa (F:List (Nat × Ob)) (h0 h:List Ob) (i:Nat) (p:List Pt) (l:List Spn) (a:Int) (k:LIn F h0 h i 126 194 3 (p.map ptC)) (O:p.length<1073741824) (N:l.length<1073741824):
  ACalls Tryz.prog 116 [spv l,i64 a,.ptr i 0] h λr h'=>r= .tup []/\LIn F h0 h' i 126 194 3 ((p++xF l a).map ptC):=by
 have hex:∃r h',(r=AV.tup []/\LIn F h0 h' i 126 194 3 ((p++xF l a).map ptC))/\ResK h h':=by
  obtain ⟨h',K,E⟩:=k.any ((p++xF l a).map ptC)
  exact ⟨_,h',⟨rfl,K⟩,E⟩
 refine zf Tryz.f116 [] 23 rfl rfl rfl rfl rfl rfl (by decide) (hex) λB=>?_
 simp only[go_sem,List.length_map]
 refine zk (by decide) (λm T h'=>∃n:Nat,n<=l.length/\LIn F h0 h' i 126 194 3 ((p++xF (l.take n) a).map ptC)/\T 1=i64 a/\T 2= .ptr i 0/\T 7=spv l/\T 8=i64 l.length/\T 9=i64 n/\m=l.length - n) l.length
  ⟨0,by omega,by simpa [xF] using k,by simp only[go_sem],by simp only[go_sem],by simp only[go_sem],by (simp only[go_sem]<;>rfl),by (simp only[go_sem]<;>rfl),rfl⟩ ?_
 clear k hex
 rintro m T h' ⟨n,L,k,t1,t2,A,t8,t9,rfl⟩
 simp only[go_sem,t8,t9]
 refine ways (λe=>?_) (λe=>?_)
 ·have s:=dlt e
  have c:=yk s
  have o:(n:Int)<l.length:=by omega
  have b:(p++xF (l.take (n+1)) a).map ptC=(p++xF (l.take n) a).map ptC++[[i64 (l[n]).from_,i64 (l[n]).to_,i64 a]]:=by
   rw[show l.take (n+1)=l.take n++[l[n]] from (List.take_append_getElem s).symm]
   simp only[xF,List.map_append,List.map_cons,List.map_nil,List.append_assoc]
   rfl
  have f:((p++xF (l.take n) a).length+1)*25<=140737488355328:=by
   rw[List.length_append,kU,List.length_take];omega
  obtain ⟨z,D⟩:∃z,z=l[n]:=⟨_,rfl⟩
  rw[<-D] at c b
  obtain ⟨P,H⟩:∃P,P=(p++xF (l.take n) a):=⟨_,rfl⟩
  rw[<-H] at b f k
  obtain ⟨J,d,y⟩:=k.at_
  have Q:=k.lt
  have g:∀M,(h'++M)[i]? =some (.box 126 [J]):=λM=>zb d
  rcases y with ⟨rfl,j⟩ | ⟨id,st,I,rfl,u⟩
  ·simp only[go_sem,t1,t2,A,t9,c,o,d,g,List.length_map,Int.toNat_natCast,Int.natCast_nonneg]
   rw[j,List.nil_append] at b
   have q:=k.push_nil (M:=[.box 143 (zz z),.row 194 3 [[i64 z.from_,i64 z.to_,i64 a]] 0,.row 194 3 [[i64 z.from_,i64 z.to_,i64 a]] 0]) (zg rfl (zg rfl (zj rfl))) (id:=h'.length+2) (by omega) (by rw[zl (k:=2) rfl];rfl)
   rw[<-b] at q
   exact ⟨l.length - (n+1),by omega,n+1,by omega,by rw[b] at q ⊢;exact q,t8,zw (by omega) rfl,rfl⟩
  ·have G:∀M,(h'++M)[id]? =some (.row 194 3 (P.map ptC) st):=λM=>zb u
   have x:id≠i:=λq=>by rw[q,d] at u;cases u
   have t:∀M o',((h'++M).set id o')[i]? =some (.box 126 [.tl id st]):=λM o'=>by
    rw[List.getElem?_set_ne x];exact g M
   simp only[go_sem,t1,t2,A,t9,c,o,d,g,G,t,f,List.length_map,Int.toNat_natCast,Int.natCast_nonneg]
   have w:∀M,NoRes M->LIn F h0 (((h'++M).set id (.row 194 3 (P.map ptC++[[i64 z.from_,i64 z.to_,i64 a]]) (st+1))).set i (.box 126 [.tl id (st+1)])) i 126 194 3 ((p++xF (l.take (n+1)) a).map ptC):=λM w=>by
    rw[b];exact k.push_own w I u
   exact ⟨l.length - (n+1),by omega,n+1,by omega,w _ (zg rfl (zj rfl)),t8,zw (by omega) rfl,rfl⟩
 ·have C:=jk e
  have v:n=l.length:=by omega
  subst v
  rw[List.take_length] at k
  simp only[go_sem]
  exact ⟨_,rfl,.inl ⟨rfl,k⟩⟩
theorem Yw {P:Program} {f:FuncId} {ar:List AV} {h:List Ob} {α:Type} {S:α->Prop} {g:α->List (List AV)} {e:Nat} (t:0<e) (o:∀q,qb h.length (g q)=true) (c:ACalls P f ar h λr h'=>∃q,S q/\∃L,h'=h++L/\NoRes L/\New h e r (g q) L):ACalls P f ar h λr h'=>(∃q,S q/\r= .sl e (g q))/\h'=h:=by
 refine ⟨c.1,(let ⟨_,_,⟨q,i,_⟩,_⟩:=c.2.1;⟨_,_,⟨⟨q,i,rfl⟩,rfl⟩,.refl⟩),λφ m B w n vs k hB b=>?_⟩
 refine (c.2.2 φ m B w n vs k hB b).mono λu w' ⟨v,r,h',g',s,⟨q,i,L,p,_,l⟩,_,d,j⟩=>?_
 subst p
 rw[jh m] at d j
 have a:(fill φ h).length=h.length:=qi
 refine ⟨v,_,h,g',s,⟨⟨q,i,rfl⟩,rfl⟩,.refl,d.drop rfl (by have:=k.ids;exact this),?_⟩
 exact Q0 d.ok t j (l _ a) (λid hid=>by rw[a];exact l.root id hid) (by rw[a];exact o q)
def oj (o:List Spn × List Spn × List Spn):Nat->List Spn
 | 0=>o.1
 | 1=>o.2.1
 | _=>o.2.2
def Zu (s:Setup) (o:List Spn × List Spn × List Spn) (a:List Spn):Nat->List Pt
 | 0=>xF a 0
 | j+1=>Zu s o a j++xF (zV (oj o j) (qc s (oj o j))) (1+j)++xF (qc s (oj o j)) (4+j)
def qB (s:Setup) (l:List Seg) (w:Int):List Pt:=Zu s (qY s (qL s l) w) (zH (jD s l) w) 3
theorem Q8 (s:Setup) (l:List Spn):(qc s l).length<=l.length+742:=by
 unfold qc
 split
 ·have e:=XQ l (xo s (zD l))
  have c:=zq l
  have a:=zq (xo s (zD l))
  have d:=yn s (zD l)
  have b:=kT l
  omega
 ·simp
theorem Yx (s:Setup) (p:List Spn) (w:Int):(qY s p w).1.length<=p.length+372/\(qY s p w).2.1.length<=2*p.length+745/\(qY s p w).2.2.length<=2*p.length+745:=by
 have a:=kC (jU (zH p w)).1
 have c:=kE (zH p w) s.dayReg _ a
 have d:=kE (zH p w) s.dayOver _ a
 have j:=kT (zH p w)
 have o:(zH p w).length<=(zt p).length+1:=wL _ _ _
 have n:=zq p
 have l:(zC (vt s (zH p w) (zD (zH p w))) s.weekReg).length<=(zt (vt s (zH p w) (zD (zH p w)))).length:=jd _ _
 have m:=zq (vt s (zH p w) (zD (zH p w)))
 have i:=qS (kD s (zH p w) (zD (zH p w))) (zC (vt s (zH p w) (zD (zH p w))) s.weekReg)
 have k:=qS (zH p w) (kD s (zH p w) (zD (zH p w)))
 have h:=zq (kD s (zH p w) (zD (zH p w)))
 have f:=zq (zH p w)
 have g:=zq (zC (vt s (zH p w) (zD (zH p w))) s.weekReg)
 have e:(vt s (zH p w) (zD (zH p w))).length<=(zH p w).length+(zD (zH p w)).length:=c
 have b:(kD s (zH p w) (zD (zH p w))).length<=(zH p w).length+(zD (zH p w)).length:=d
 refine ⟨?_,?_,?_⟩
 ·show (zC (vt s (zH p w) (zD (zH p w))) s.weekReg).length<=_;omega
 ·show (zV (kD s (zH p w) (zD (zH p w))) (zC (vt s (zH p w) (zD (zH p w))) s.weekReg)).length<=_;omega
 ·show (zV (zH p w) (kD s (zH p w) (zD (zH p w)))).length<=_;omega
theorem wYa (h:List Ob) (s:Setup) (a:SA) (k:SIn h s a) (f:SFit s) (u:zE s=true) (x:AV) (l:List Seg) (w:Int) (hx:SlOf h x 5 (l.map xf)) (hl:l.length<32768):
  ACalls Tryz.prog 57 [qj s a,x,i64 w] h λr h'=>∃q:List Pt,q.Perm (qB s l w)/\∃L,h'=h++L/\NoRes L/\New h 3 r (q.map ptC) L:=by
 have hex:∃r h',(∃q:List Pt,q.Perm (qB s l w)/\∃L,h'=h++L/\NoRes L/\New h 3 r (q.map ptC) L)/\ResK h h':=
  ⟨.sl 3 _,_,⟨_,.refl _,[],rfl,jN,λ_ _=>⟨rfl,λ_=>rfl⟩⟩,zW⟩
 refine zf Tryz.f57 [.tmp 6] 68 rfl rfl rfl rfl rfl rfl (by decide) (hex) λB=>?_
 simp only[go_sem,k.ones]
 refine zd (c16 _ s a (k.app _) f) ?_
 rintro _ I ⟨rfl,rfl⟩
 simp only[go_sem,u,zL,Bool.not_true]
 refine zd (Jba _ s a (k.app _) f u x l (hx.app _) hl) ?_
 rintro _ I ⟨rfl,rfl⟩
 simp only[go_sem]
 have hpl:=Yt s l
 have hfl:=Yu s l
 refine zd (Jca _ s a (k.app _) f u _ (qL s l) w (qC _) (by omega)) ?_
 rintro _ I ⟨rfl,rfl⟩
 simp only[go_sem]
 refine zd (qLa _ _ (jD s l) w (qC _) (by omega)) ?_
 rintro _ I ⟨rfl,rfl⟩
 simp only[go_sem]
 obtain ⟨o,U⟩:∃o,o=qY s (qL s l) w:=⟨_,rfl⟩
 obtain ⟨b,y⟩:∃b,b=zH (jD s l) w:=⟨_,rfl⟩
 have V:qB s l w=Zu s o b 3:=by rw[U,y];rfl
 have Y:=Yx s (qL s l) w
 have ε:b.length<=(zt (jD s l)).length+1:=by rw[y];exact wL _ _ _
 have δ:=zq (jD s l)
 rw[V]
 rw[<-U] at Y
 rw[<-U, <-y]
 have F:∀j,(oj o j).length<=468401:=λj=>by
  unfold oj
  split<;>omega
 have i:∀j,(Zu s o b j).length<=240000+j*2000000:=λj=>by
  induction j with
  | zero=>show (xF b 0).length<=_;rw[kU];omega
  | succ j ih=>
    have I:=qS (oj o j) (qc s (oj o j))
    have D:=zq (oj o j)
    have h3:=zq (qc s (oj o j))
    have h4:=Q8 s (oj o j)
    have h5:=F j
    rw[Zu,List.length_append,List.length_append,kU,kU];omega
 have base:LIn [(h.length,Ob.box 30 (zr s a))] h (h++[.box 30 (zr s a),.box 126 [.v (.slice none 0 0)]]) (h.length+1) 126 194 3 (([]:List Pt).map ptC):=
  ⟨⟨_,rfl,zg rfl (zj rfl)⟩,by omega,(λz hz=>by rw[List.mem_singleton] at hz;subst hz;exact ⟨by show h.length≠h.length+1;omega,⟨_,_,rfl⟩,by rw[zm rfl];rfl⟩),_,by rw[zl (k:=1) rfl];rfl,.inl ⟨rfl,rfl⟩⟩
 refine zd (ZKa _ h _ (h.length+1) [] b 0 base (by decide) (by omega)) ?_
 rintro _ I ⟨rfl,k1⟩
 rw[List.nil_append] at k1
 simp only[go_sem]
 obtain ⟨G,C⟩:∃G,G=AV.fn (.func 116) [] [.ptr (h.length+1) 0]:=⟨_,rfl⟩
 rw[<-C]
 refine zk (by decide) (λm T h'=>∃j:Nat,j<=3/\LIn [(h.length,Ob.box 30 (zr s a))] h h' (h.length+1) 126 194 3 ((Zu s o b j).map ptC)/\T 3= .ptr h.length 0/\T 12= .ptr (h.length+1) 0/\T 13=G/\T 43= .ag [spv o.1,spv o.2.1,spv o.2.2]/\T 44=i64 j/\m=3 - j) 3
  ⟨0,by omega,k1,by simp only[go_sem],by simp only[go_sem],by simp only[go_sem],by simp only[go_sem],by (simp only[go_sem]<;>rfl),rfl⟩ ?_
 clear k1 base
 rintro m T h' ⟨j,hj,k1,t3,d,p,J,A,rfl⟩
 simp only[go_sem,A]
 refine ways (λe=>?_) (λe=>?_)
 ·have S:(j:Int)<3:=of_decide_eq_true e
  have K:j<3:=by omega
  have c:nth [spv o.1,spv o.2.1,spv o.2.2] j=spv (oj o j):=by
   have:j=0∨j=1∨j=2:=by omega
   rcases this with rfl | rfl | rfl<;>rfl
  have H:=F j
  have χ:=i j
  have ο:=i (j+1)
  have α:h'[h.length]? =some (.box 30 (zr s a)):=k1.keep (.head _)
  obtain ⟨O,hO⟩:∃O,O=oj o j:=⟨_,rfl⟩
  have W:Zu s o b (j+1)=Zu s o b j++xF (zV O (qc s O)) (1+j)++xF (qc s O) (4+j):=by rw[hO];rfl
  rw[<-hO] at c H
  simp only[go_sem,t3,p,J,A,c,S,K,α,C,Nat.mul_one,Int.toNat_natCast,Int.natCast_nonneg]
  refine zd (ZHa _ s a (k1.pre.sin k) f _ O (qC _) (by omega)) ?_
  rintro _ D ⟨rfl,rfl⟩
  have hnl:=Q8 s O
  simp only[go_sem,p,C]
  refine zd (ZW _ _ _ O (qc s O) (qC _) (qC _) (by omega) (by omega)) ?_
  rintro _ D ⟨rfl,rfl⟩
  have w1:IntKind.wrap .i64 (1+(j:Int))=1+(j:Int):=zF (n:=1+(j:Int)) (by unfold Fit;omega)
  have w2:IntKind.wrap .i64 (1+(j:Int)+3)=4+(j:Int):=(zF (n:=1+(j:Int)+3) (by unfold Fit;omega)).trans (by omega)
  have ψ:=qS O (qc s O)
  have κ:=zq O
  have η:=zq (qc s O)
  simp only[go_sem,p,C,w1]
  refine zd (ZKa _ h _ (h.length+1) (Zu s o b j) (zV O (qc s O)) (1+j) k1 (by omega) (by omega)) ?_
  rintro _ D ⟨rfl,k2⟩
  simp only[go_sem,p,C,w1,w2]
  refine zd (ZKa _ h _ (h.length+1) _ (qc s O) (4+j) k2 (by rw[List.length_append,kU];omega) (by omega)) ?_
  rintro _ h3 ⟨rfl,k3⟩
  rw[<-W] at k3
  simp only[go_sem,A]
  exact ⟨3 - (j+1),by omega,j+1,by omega,k3,t3,d,by rw[p,C],J,zw (by omega) rfl,rfl⟩
 ·have ρ:¬ (j:Int)<3:=of_decide_eq_false e
  have X:j=3:=by omega
  subst X
  obtain ⟨x2,g,M⟩:=k1.at_
  have ha3:=i 3
  have t:=k1.pre
  have ι:AV.cells x2=some [x2]:=M.rows.cells
  rcases M with ⟨rfl,E⟩ | ⟨id,st,u1,rfl,P⟩
  ·simp only[go_sem,d,g]
   refine zd (vna _ _) ?_
   rintro _ D ⟨rfl,e2⟩
   rw[e2]
   simp only[go_sem,d,g]
   obtain ⟨L,Z,Q⟩:=t
   exact ⟨_,rfl,.inl ⟨Zu s o b 3,.refl _,L,Z,Q,by rw[E];exact λD _=>⟨rfl,λh=>absurd rfl h⟩⟩⟩
  ·simp only[go_sem,d,g]
   refine zd (wXa _ id st _ P (by omega)) ?_
   rintro _ D ⟨rfl,q,q1,q2,rfl⟩
   have R:id≠h.length+1:=λq=>by rw[q,g] at P;cases P
   have β:(h'.set id (.row 194 3 (q.map ptC) st))[h.length+1]? =some (.box 126 [.tl id st]):=by rw[List.getElem?_set_ne R];exact g
   simp only[go_sem,d,β]
   have γ:Pre h (h'.set id (.row 194 3 (q.map ptC) st)):=t.set u1 rfl
   have N:OwnS h (h'.set id (.row 194 3 (q.map ptC) st)) 194 3 (.tl id st) (q.map ptC):= .inr ⟨id,st,u1,rfl,List.getElem?_set_self (List.getElem?_eq_some_iff.1 P).1⟩
   obtain ⟨L,Z,Q⟩:=γ
   rw[Z] at N⊢
   exact ⟨_,rfl,.inl ⟨q,q1,L,rfl,Q,N.new (Nat.le_refl _)⟩⟩
theorem ZLa (h:List Ob) (s:Setup) (a:SA) (k:SIn h s a) (f:SFit s) (b:zE s=true) (x:AV) (l:List Seg) (w:Int) (c:SlOf h x 5 (l.map xf)) (d:l.length<32768):
  ACalls Tryz.prog 57 [qj s a,x,i64 w] h λr h'=>(∃q:List Pt,q.Perm (qB s l w)/\r= .sl 3 (q.map ptC))/\h'=h:=
 Yw (by decide) (λq=>yMa q) (wYa h s a k f b x l w c d)
end Go.Proofs.YtigdlmpjijhpaaaGreat.Ax
namespace Go.Proofs.YtigdlmpjijhpaaaGreat.Ax
open Go Go.Proofs
set_option maxRecDepth 100000
def kF (f:Nat->Int):List AV:=[i64 (f 0),i64 (f 1),i64 (f 2),i64 (f 3),i64 (f 4),i64 (f 5),i64 (f 6)]
theorem Yy (f:Nat->Int) {k:Nat} (a:k<7) (v:Int):lay (kF f) k [i64 v]=some (kF λj=>if j=k then v else f j):=by
 have:k=0∨k=1∨k=2∨k=3∨k=4∨k=5∨k=6:=by omega
 rcases this with rfl | rfl | rfl | rfl | rfl | rfl | rfl<;>rfl
theorem voa (f:Nat->Int) {k:Nat} (a:k<7):nth (kF f) k=i64 (f k):=by
 have:k=0∨k=1∨k=2∨k=3∨k=4∨k=5∨k=6:=by omega
 rcases this with rfl | rfl | rfl | rfl | rfl | rfl | rfl<;>rfl
theorem Kf (f:Nat->Int):cut (kF f) 0 7=some (kF f):=rfl
theorem Yz (f g:Nat->Int):lay (kF f) 0 (kF g)=some (kF g):=rfl
theorem vpa (f:Nat->Int):(kF f).all AV.one=true:=rfl
theorem vqa (f:Nat->Int):(kF f).length=7:=rfl
attribute [go_sem] Kf Yz vpa vqa
def ptS (p:Pt):Spn:=⟨p.from_,p.to_⟩
def jS (q:List Pt) (k:Int):List Spn:=(q.filter λp=>p.kind==k).map ptS
theorem z2a (q:List Pt) (k:Int) (p:Pt):jS (q++[p]) k=if p.kind==k then jS q k++[ptS p] else jS q k:=by
 unfold jS
 rw[List.filter_append,List.map_append]
 cases h:p.kind==k<;>simp[h]
theorem Vk (q:List Pt) (k:Int):(jS q k).length<=q.length:=by
 unfold jS
 rw[List.length_map]
 exact List.length_filter_le _ q
def xj (q:List Pt) (k:Int):Int:=qf (zt (jS q k))
theorem ZMa {l:List Pt} {i:Nat} (h:i<l.length):(l.map ptC)[i]? =some (ptC l[i]):=by rw[List.getElem?_map,List.getElem?_eq_getElem h];rfl
theorem z3a {q:List Pt} {n:Nat} (h:n<q.length) (k:Int):jS (q.take (n+1)) k=if (q[n]).kind==k then jS (q.take n) k++[ptS q[n]] else jS (q.take n) k:=by
 rw[show q.take (n+1)=q.take n++[q[n]] from (List.take_append_getElem h).symm,z2a]
theorem Zr {h0 h':List Ob} {i id:Nat} {ty e:Nat} {rows:List (List AV)} {st:Nat} {o:Ob} {t:TypeId} {c:List AV} (b:h'[i]? =some (.box t c)) (a:h'[id]? =some (.row ty e rows st)):(h'.set id o)[i]? =some (.box t c):=by
 have:id≠i:=λq=>by rw[q,b] at a;cases a
 rw[List.getElem?_set_ne this];exact b
set_option maxHeartbeats 1000000 in
theorem wZa (h:List Ob) (x:AV) (q:List Pt) (O:SlOf h x 3 (q.map ptC)) (hl:q.length<1048576):
  ACalls Tryz.prog 56 [x] h λr h'=>r= .ag (kF λj=>xj q j)/\h'=h:=by
 refine zf Tryz.f56 [.cell 2 42] 35 rfl rfl rfl rfl rfl rfl (by decide) (⟨_,_,⟨rfl,rfl⟩,.refl⟩) λB=>?_
 simp only[go_sem]
 refine zk (by decide) (λm T h'=>∃k:Nat,k<=7/\Pre h h'/\h'[h.length]? =some (.box 42 (kF λj=>if j<k then xj q j else 0))/\T 0=x/\T 2= .ptr h.length 0/\T 7=i64 k/\m=7 - k) 7
  ⟨0,by omega,⟨_,rfl,zj rfl⟩,by rw[zm rfl];rfl,by simp only[go_sem],by simp only[go_sem],by (simp only[go_sem]<;>rfl),rfl⟩ ?_
 rintro m T h' ⟨k,hk,b,c,t0,t2,l,rfl⟩
 simp only[go_sem,l]
 refine ways (λe=>?_) (λe=>?_)
 ·have G:(k:Int)<7:=of_decide_eq_true e
  have t:k<7:=by omega
  have o:=(b.sl O).rows
  simp only[go_sem,t0,l,o,List.length_map]
  refine zk (by decide) (λm T u=>∃n:Nat,n<=q.length/\Pre h u/\u[h.length]? =some (.box 42 (kF λj=>if j<k then xj q j else 0))/\OwnS h u 143 2 (T 4) ((jS (q.take n) k).map zz)/\T 0=x/\T 2= .ptr h.length 0/\T 3=i64 k/\T 7=i64 k/\T 10=x/\T 11=i64 q.length/\T 12=i64 n/\m=q.length - n) q.length
   ⟨0,by omega,b,c,.inl ⟨by simp only[go_sem],rfl⟩,by simp only[go_sem,t0],by simp only[go_sem,t2],by (simp only[go_sem]<;>rfl),by simp only[go_sem,l],by simp only[go_sem,t0],by (simp only[go_sem]<;>rfl),by (simp only[go_sem]<;>rfl),rfl⟩ ?_
  clear t0 t2 l o c b
  rintro m T u ⟨n,Z,b,c,A,t0,t2,t3,l,t10,p,f,rfl⟩
  simp only[go_sem,p,f]
  refine ways (λF=>?_) (λF=>?_)
  ·have d:=dlt F
   have v:=b.sl O
   have I:=v.at (i:=n) (by simpa using d)
   have o:=v.rows
   have g:=ZMa d
   have w:(n:Int)<q.length:=by omega
   have a:=z3a d k
   obtain ⟨y,U⟩:∃y,y=q[n]:=⟨_,rfl⟩
   rw[<-U] at g a
   have X:List.length (ptC y)=3:=rfl
   have R:ptC y=[i64 y.from_,i64 y.to_,i64 y.kind]:=rfl
   rw[R] at g
   have fin:n+1<=q.length:=by omega
   simp only[go_sem,t3,t10,f,I,o,g,w,List.length_map,Int.toNat_natCast,Int.natCast_nonneg]
   refine ways (λz=>?_) (λz=>?_)
   ·rw[z] at a
    simp only[if_true] at a
    rcases A with ⟨t4,K⟩ | ⟨id,st,Q,t4,W⟩
    ·simp only[go_sem,t4,f]
     refine ⟨q.length - (n+1),by omega,n+1,fin,b.app (zg rfl (zg rfl (zj rfl))),zb c,.inr ⟨_,_,by have:=b.len;omega,rfl,?_⟩,t0,t2,t3,l,t10,p,zw (by omega) rfl,rfl⟩
     rw[a,List.map_append,K,zl rfl]
     rfl
    ·have N:(((jS (q.take n) k).map zz).length+1)*17<=140737488355328:=by
      have:=Vk (q.take n) k
      rw[List.length_take] at this
      rw[List.length_map];omega
     have H:∀M,(u++M)[id]? =some (.row 143 2 ((jS (q.take n) k).map zz) st):=λM=>zb W
     simp only[go_sem,t4,f,H,N]
     refine ⟨q.length - (n+1),by omega,n+1,fin,(b.app (zg rfl (zj rfl))).set Q rfl,Zr (h0:=h) (zb c) (H _),.inr ⟨id,st+1,Q,rfl,?_⟩,t0,t2,t3,l,t10,p,zw (by omega) rfl,rfl⟩
     rw[a,List.map_append]
     exact zh (H _)
   ·have z:(y.kind==(k:Int))=false:=by simpa using z
    rw[z] at a
    simp only[Bool.false_eq_true,if_false] at a
    simp only[go_sem,f]
    exact ⟨q.length - (n+1),by omega,n+1,fin,b.app (zj rfl),zb c,by rw[a];exact A.app _,t0,t2,t3,l,t10,p,zw (by omega) rfl,rfl⟩
  ·have D:=jk F
   have C:n=q.length:=by omega
   subst C
   rw[List.take_length] at A
   have w:=Vk q k
   simp only[go_sem,t3]
   refine zd (qKa _ (T 4) (jS q k) A.rows (by omega)) ?_
   rintro _ h3 ⟨rfl,S⟩
   rw[S]
   have s:=Yy (λj=>if j<k then xj q j else 0) t (xj q k)
   have E:(λj:Nat=>if j=k then xj q k else if j<k then xj q j else 0)=λj:Nat=>if j<k+1 then xj q j else 0:=by
    funext j
    by_cases P:j=k
    ·subst P;rw[if_pos rfl,if_pos (by omega)]
    ·rw[if_neg P]
     by_cases u:j<k
     ·rw[if_pos u,if_pos (by omega)]
     ·rw[if_neg u,if_neg (by omega)]
   rw[E] at s
   rw[show qf (zt (jS q k))=xj q k from rfl]
   simp only[go_sem,t2,t3,l,c,s,G,t,Nat.mul_one,Nat.zero_add,Int.toNat_natCast,Int.natCast_nonneg]
   exact ⟨7 - (k+1),by omega,k+1,by omega,b.set (Nat.le_refl _) rfl,zh c,t0,zw (by omega) rfl,rfl⟩
 ·have D:¬ (k:Int)<7:=of_decide_eq_false e
  have J:k=7:=by omega
  subst J
  have c:h'[h.length]? =some (.box 42 (kF λj=>xj q j)):=c
  simp only[go_sem,t2,c,Kf,Yz]
  rw[zZ c]
  obtain ⟨L,V,Y⟩:=b
  refine ⟨.ag (kF λj=>xj q j),by simp only[go_sem,t2,c,Kf],.inr ⟨h,L,V,rfl,rfl,.refl,rfl,rfl⟩⟩
set_option maxRecDepth 100000
def YA (n:Int):Int:=min (max n 0) 604800
theorem YB (n:Int):jf Tryz.prog 135 [i64 n] (i64 (YA n)):=λh=>by
 refine zf Tryz.f135 [.tmp 2] 6 rfl rfl rfl rfl rfl rfl (by decide) (⟨_,_,⟨rfl,rfl⟩,.refl⟩) λB=>?_
 simp only[go_sem]
 (first | refine zc ?_ | refine ze ?_ (by rfl))<;>(simp only[go_sem,YA,w9,yb]<;>try rfl)
def z4a (n d:Int):Int:=(Jq n d).1
theorem yNa (n d:Int):jf Tryz.prog 136 [i64 n,i64 d] (i64 (z4a n d)):=λh=>by
 refine zf Tryz.f136 [.tmp 4] 14 rfl rfl rfl rfl rfl rfl (by decide) (⟨_,_,⟨rfl,rfl⟩,.refl⟩) λB=>?_
 simp only[go_sem]
 refine zd (c70 n d _) ?_
 rintro _ a ⟨rfl,rfl⟩
 simp only[go_sem,QU]
 (first | refine zc ?_ | refine ze ?_ (by rfl))<;>(simp only[go_sem,z4a]<;>try rfl)
def V8 (r k:Int):Int:=wr (r*wr (k+1))
def Kg (s:Setup) (r k:Int):Int:=if k>3 then wr (V8 r (k - 3)+wr (2*s.diff)) else V8 r k
theorem qWa (h:List Ob) (s:Setup) (a:SA) (k:SIn h s a) (r n:Int) (c:n<=3):
  ACalls Tryz.prog 137 [qj s a,i64 r,i64 n] h λb h'=>b=i64 (V8 r n)/\h'=h:=by
 have q:decide (n>3)=false:=by rw[decide_eq_false_iff_not];omega
 refine zf Tryz.f137 [.tmp 6] 22 rfl rfl rfl rfl rfl rfl (by decide) (⟨_,_,⟨rfl,rfl⟩,.refl⟩) λB=>?_
 simp only[go_sem,k.ones,q]
 (first | refine zc ?_ | refine ze ?_ (by rfl))<;>(simp only[go_sem,V8]<;>try rfl)
theorem ZNa (h:List Ob) (s:Setup) (a:SA) (k:SIn h s a) (r n:Int) (e:n<=6):
  ACalls Tryz.prog 137 [qj s a,i64 r,i64 n] h λc h'=>c=i64 (Kg s r n)/\h'=h:=by
 by_cases b:n>3
 ·have q:decide (n>3)=true:=decide_eq_true b
  have w:IntKind.wrap .i64 (n - 3)=n - 3:=zF (n:=n - 3) (by unfold Fit;omega)
  refine zf Tryz.f137 [.tmp 6] 22 rfl rfl rfl rfl rfl rfl (by decide) (⟨_,_,⟨rfl,rfl⟩,.refl⟩) λB=>?_
  simp only[go_sem,k.ones,q]
  refine zp rfl [] 0 [(1,0,[]),(2,0,[]),(3,0,[]),(5,0,[]),(0,0,[]),(6,0,[]),(7,0,[]),(4,0,[6]),(8,0,[]),(9,0,[])] rfl (by decide) (by decide) ?_
  simp only[go_sem,k.ones,w]
  refine zd (qWa _ s a (k.app _) r (n - 3) (by omega)) ?_
  rintro _ d ⟨rfl,rfl⟩
  simp only[go_sem,k.ones,w]
  (first | refine zc ?_ | refine ze ?_ (by rfl))<;>(simp only[go_sem,Kg,b]<;>try rfl)
 ·refine (qWa h s a k r n (by omega)).mono ?_
  rintro c h' ⟨rfl,rfl⟩
  exact ⟨by unfold Kg;rw[if_neg b],rfl⟩
def upI (n d:Int):Int × Int:=if d<=0 then (0,20) else if (jX n d).2>0 then (wr ((jX n d).1+1),0) else ((jX n d).1,0)
theorem cUp (n d:Int):jf Tryz.prog 139 [i64 n,i64 d] (QU (upI n d)):=λh=>by
 refine zf Tryz.f139 [.tmp 4,.tmp 5] 21 rfl rfl rfl rfl rfl rfl (by decide) (⟨_,_,⟨rfl,rfl⟩,.refl⟩) λB=>?_
 simp only[go_sem]
 refine ways (λe=>?_) (λe=>?_)
 ·have a:d<=0:=of_decide_eq_true e
  simp only[go_sem]
  (first | refine zc ?_ | refine ze ?_ (by rfl))<;>(simp only[go_sem,upI,a,QU]<;>try rfl)
 ·have a:¬ d<=0:=of_decide_eq_false e
  simp only[go_sem]
  refine zd (c97 n d (by omega) _) ?_
  rintro _ f ⟨rfl,rfl⟩
  simp only[go_sem,QU]
  refine ways (λc=>?_) (λc=>?_)
  ·have b:(jX n d).2>0:=of_decide_eq_true c
   simp only[go_sem]
   (first | refine zc ?_ | refine ze ?_ (by rfl))<;>(simp only[go_sem,upI,a,b,QU]<;>try rfl)
  ·have b:¬ (jX n d).2>0:=of_decide_eq_false c
   simp only[go_sem]
   (first | refine zc ?_ | refine ze ?_ (by rfl))<;>(simp only[go_sem,upI,a,b,QU]<;>try rfl)
def Kh:Int->List Int->Int × Int
 | a,[]=>(a,0)
 | a,x::r=>if (decide (x>0)==decide (wr (a+x)>a)) || x==0 then Kh (wr (a+x)) r else (0,10)
theorem Xga (h:List Ob) (x:AV) (l:List Int) (p:SlOf h x 1 (l.map zJ)) (u:l.length<1048576):
  ACalls Tryz.prog 138 [x] h λr h'=>r=QU (Kh 0 l)/\h'=h:=by
 refine zf Tryz.f138 [.tmp 2,.tmp 3] 30 rfl rfl rfl rfl rfl rfl (by decide) (⟨_,_,⟨rfl,rfl⟩,.refl⟩) λB=>?_
 simp only[go_sem]
 refine XU (by decide) ?_
 simp only[go_sem,p.rows,List.length_map]
 refine zk (by decide) (λm T h'=>∃(i:Nat) (k:Int),i<=l.length/\h'=h/\Kh 0 l=Kh k (l.drop i)/\T 4=i64 k/\T 8=x/\T 9=i64 l.length/\T 10=i64 i/\m=l.length - i) l.length
  ⟨0,0,by omega,rfl,rfl,by (simp only[go_sem]<;>rfl),by simp only[go_sem],by (simp only[go_sem]<;>rfl),by (simp only[go_sem]<;>rfl),rfl⟩ ?_
 rintro m T h' ⟨i,k,t,rfl,a,t4,t8,t9,t10,rfl⟩
 simp only[go_sem,t9,t10]
 refine ways (λe=>?_) (λe=>?_)
 ·have d:=dlt e
  have c:=QC d
  have j:=p.at (i:=i) (by rw[List.length_map];exact d)
  have n:=p.rows
  have o:(i:Int)<l.length:=by omega
  rw[List.drop_eq_getElem_cons d,Kh] at a
  obtain ⟨z,q⟩:∃z,z=l[i]:=⟨_,rfl⟩
  rw[<-q] at c a
  simp only[go_sem,t4,t8,t10,j,n,c,o,List.length_map,Int.toNat_natCast,Int.natCast_nonneg]
  obtain ⟨b,f⟩:∃b:Bool,b=(decide (z>0)==decide (wr (k+z)>k)):=⟨_,rfl⟩
  rw[<-f] at a
  rw[show (decide (z>0)==decide (IntKind.i64.wrap (k+z)>k))=b from f.symm]
  cases b
  ·cases h0:z==0
   ·rw[h0] at a
    simp only[Bool.or_self,Bool.false_eq_true,if_false] at a
    simp only[go_sem,h0,zL, <-f]
    (first | refine zc ?_ | refine ze ?_ (by rfl))<;>(simp only[go_sem,a,QU]<;>try rfl)
   ·rw[h0] at a
    simp only[Bool.or_true,if_true] at a
    simp only[go_sem,h0,zL, <-f,t10]
    exact ⟨l.length - (i+1),by omega,i+1,_,by omega,a,rfl,t8,t9,zw (by omega) rfl,rfl⟩
  ·simp only[Bool.true_or,if_true] at a
   simp only[go_sem,zL, <-f,t10]
   exact ⟨l.length - (i+1),by omega,i+1,_,by omega,a,rfl,t8,t9,zw (by omega) rfl,rfl⟩
 ·have s:=jk e
  have g:i=l.length:=by omega
  subst g
  rw[List.drop_length,Kh] at a
  simp only[go_sem,t4]
  (first | refine zc ?_ | refine ze ?_ (by rfl))<;>(simp only[go_sem,a,QU]<;>try rfl)
end Go.Proofs.YtigdlmpjijhpaaaGreat.Ax
namespace Go.Proofs.YtigdlmpjijhpaaaGreat.Ax
open Go Go.Proofs Go.RowKit Go.Lib
set_option maxRecDepth 100000
theorem qXa:∃i,Tryz.prog.info? 3=some i/\i.zero=some (.int .i64 0)/\i.size=1/\i.bytes=8:=by
 have h:(Tryz.prog.info? 3).map (λi=>(i.zero,i.size,i.bytes))=some (some (.int .i64 0),1,8):=by kernel_rfl
 cases a:Tryz.prog.info? 3 with
 | none=>rw[a] at h;cases h
 | some i=>
   rw[a] at h
   injection h with h
   injection h with h1 h2
   injection h2 with h2 h3
   exact ⟨i,rfl,h1,h2,h3⟩
theorem w0a {N:Nat} {B:Bs} {w:World} {g:Gh} {h:List Ob} {a:Act} {T b:Env} (r:Rel N B w g h a T) (c:∀i,b i=T i∨b i= .bad):Rel N B w g h a b:=
 ⟨r.ok,r.hB,λi=>by
  rcases c i with e | e
  ·rw[e];exact r.t i
  ·rw[e];trivial,r.d,r.n⟩
theorem qYa {P:Program} {N:Nat} {B:Bs} {φ:Nat->Ob} {ops:Array Oper} {o:Oper} {l:List Oper} {T:Env} {h h':List Ob} {x:AV} {w:World} {g:Gh} {a:Act} {Q:Exit->Act->World->Prop} (q:Upto φ h.length) (j:vf N o=true) (n:o.guard=none) (i:kG T o.op=none)
  (d:zn P T h o.op=some (x,h')) (r:Rel N B w g (fill φ h) a T) (next:∀g' w' c,ResK h h'->Rel N B w' g' (fill φ h') c (zN T o.dst x)->Good B.b w g (fill φ h) w' g' (fill φ h')->wpListIn Fence.wide 0 P ops Q l c w'):wpListIn Fence.wide 0 P ops Q (o::l) a w:=by
 unfold wpListIn
 rw[if_pos (by simp[Region.wanted,n])]
 refine Xg (K:=λe f=>e=zN T o.dst x/\f=h') 0 q j ?_ r ?_
 ·unfold Xe
  rw[i]
  unfold xX
  rw[d]
  exact ⟨rfl,rfl⟩
 ·rintro e f w' c ⟨rfl,rfl⟩ ⟨g',p,k,m⟩
  exact next g' w' c p k m
theorem YC (w:World) (b:Nat):(Instr.sliceAt 42 (.pointer (some ⟨b,0,none⟩)) none none none).run Tryz.prog w= .ok (.slice (some ⟨b,0,none⟩) 7 7) w:=by
 obtain ⟨i,a,e,f,d⟩:=qXa
 have c:Tryz.prog.underlying 42=some (.array 7 3):=Tryz.underlying42
 simp[Instr.sliceAt,Instr.sureAddr,run_underlying c,Instr.sliceBounds,sizeOf,typeInfo,a,Addr.add_lit]
set_option maxHeartbeats 1000000 in
theorem w1a {N:Nat} {B:Bs} {T:Env} {h:List Ob} {Q:jr} {id i p q d F m d3:Nat} {ops:Array Oper} {V o1 o2 U:Oper} {rest:List Oper} (f:Nat->Int) (v:Int) (L:ops.toList=V::o1::o2::U::rest)
  (hd:ops.toList.all (vf N)=true) (e0:V.op= .slice 42 (.tmp p) none none none) (s0:V.dst=some d) (g0:V.guard=none)
  (e1:o1.op= .move (.tmp q)) (s1:o1.dst=some F) (g1:o1.guard=none)
  (e2:o2.op= .buildSlice 27 1 #[(0,.tmp F)]) (s2:o2.dst=some m) (g2:o2.guard=none)
  (e3:U.op= .call { callee:= .builtin .append,args:= #[.tmp d,.tmp m],argTypes:= #[27,27] }) (s3:U.dst=some d3) (g3:U.guard=none)
  (n01:F≠d) (n02:m≠d) (nq:q≠d)
  (hp:T p= .ptr i 0) (hb:h[i]? =some (.box 42 (kF f))) (hq:T q=i64 v)
  (k:wpR Tryz.prog ops (Q .normal) rest (upd (upd (upd (upd T d .bad) F (i64 v)) m (.tl h.length 0)) d3 (.tl (h.length+1) 0)) (h++[.row 3 1 [[i64 v]] 0]++[.row 3 1 ([f 0,f 1,f 2,f 3,f 4,f 5,f 6,v].map zJ) 0])):
  AWp Tryz.prog N B (.region id ops false) Q T h:=λφ hu w g a r=>by
 refine (wpIn_wide (n:=0)).1 (wpIn_region ?_)
 rw[List.range_eq_range', <-Array.length_toList,wpOpsIn_eq_wpListIn ops.toList 0 (by simp),L]
 rw[L] at hd
 simp only[List.all_cons,Bool.and_eq_true] at hd
 obtain ⟨hd0,hd1,hd2,hd3,hdr⟩:=hd
 have s:=r.t p
 rw[hp] at s
 obtain ⟨Y,s⟩:=s
 have s:a.eval (.tmp p)= .pointer (some ⟨g.β i,0,none⟩):=s
 have c0:V.wpIn Fence.wide 0 Tryz.prog a w (wpListIn Fence.wide 0 Tryz.prog ops (λe M w'=>∃o h',Q e o h'/\Aft N B φ w g h o h' M w') (o1::o2::U::rest)) (λe M w'=>∃o h',Q e o h'/\Aft N B φ w g h o h' M w'):=by
  refine Zd 0 ?_
  unfold Oper.wp
  have θ:(execOp a.eval V).run Tryz.prog w= .ok (.value (.slice (some ⟨g.β i,0,none⟩) 7 7)) w:=by
   obtain ⟨dst,op,type,pos,after,guard⟩:=V
   simp only at e0
   subst e0
   have:=YC w (g.β i)
   simp only[execOp,s]
   simp[this]
  rw[θ]
  show wpListIn Fence.wide 0 Tryz.prog ops _ (o1::o2::U::rest) (a.put V.dst (.slice (some ⟨g.β i,0,none⟩) 7 7)) w
  have r1:=vn (x:= .v (.slice (some ⟨g.β i,0,none⟩) 7 7)) (v:= .slice (some ⟨g.β i,0,none⟩) 7 7) r (Good.refl r.ok r.hB) rfl hd0
  rw[s0] at r1⊢
  obtain ⟨S,ρ⟩:∃S,S=Value.slice (some ⟨g.β i,0,none⟩) 7 7:=⟨_,rfl⟩
  rw[<-ρ] at r1⊢
  obtain ⟨T1,J⟩:∃T1,T1=zN T (some d) (.v S):=⟨_,rfl⟩
  rw[<-J] at r1
  have t1q:T1 q=i64 v:=by rw[J];show upd T d _ q=_;unfold upd;rw[if_neg nq];exact hq
  have t1d:T1 d= .v S:=by rw[J];show upd T d _ d=_;unfold upd;rw[if_pos rfl]
  refine qYa (x:=i64 v) (h':=h) hu hd1 g1 (by rw[e1];rfl) (by rw[e1];simp only[zn,ev,t1q]) r1 ?_
  intro g2' w2 a2 q1 r2 k2
  rw[s1] at r2
  obtain ⟨X,H⟩:∃X,X=zN T1 (some F) (i64 v):=⟨_,rfl⟩
  rw[<-H] at r2
  have t2d:X d= .v S:=by rw[H];show upd T1 F _ d=_;unfold upd;rw[if_neg (Ne.symm n01)];exact t1d
  have t2v:X F=i64 v:=by rw[H];show upd T1 F _ F=_;unfold upd;rw[if_pos rfl]
  refine qYa (x:= .tl h.length 0) (h':=h++[.row 3 1 [[i64 v]] 0]) hu hd2 g2 (by rw[e2];rfl) (by rw[e2];simp only[zn,qo,go_sem,evs,ev,t2v]) r2 ?_
  intro A c a3 q2 C k3
  rw[s2] at C
  obtain ⟨T3,I⟩:∃T3,T3=zN X (some m) (.tl h.length 0):=⟨_,rfl⟩
  rw[<-I] at C
  have t3d:T3 d= .v S:=by rw[I];show upd X m _ d=_;unfold upd;rw[if_neg (Ne.symm n02)];exact t2d
  have t3v:T3 m= .tl h.length 0:=by rw[I];show upd X m _ m=_;unfold upd;rw[if_pos rfl]
  obtain ⟨E,K⟩:∃E,E=h++[.row 3 1 [[i64 v]] 0]:=⟨_,rfl⟩
  rw[<-K] at C k3 q2 k
  have hl3:E.length=h.length+1:=by rw[K];simp
  have μ:Upto φ E.length:=hu.mono (by omega)
  have hb3:E[i]? =some (.box 42 (kF f)):=by rw[K];exact zb hb
  have hr3:E[h.length]? =some (.row 3 1 [[i64 v]] 0):=by rw[K,zm rfl];rfl
  have kk:=k2.trans k3
  have hβ:A.β i=g.β i:=kk.le.β i Y
  have w0:a3.eval (.tmp d)=S:=by
   have:=C.t d
   rw[t3d] at this
   exact this
  have τ:=C.t m
  rw[t3v] at τ
  obtain ⟨_,_,ι⟩:=τ
  have R:=zM (φ:=φ) hr3 rfl
  have e4:a3.eval (.tmp m)=A.cur h.length:=(ι 0 (by simp[ctx,R,Ob.tok])).2 rfl
  obtain ⟨_,_,cells,c2,c3⟩:=C.ok.ok _ _ R
  obtain ⟨u,rr,z1,z2,z3⟩:=c3
  have z2:u= .int .i64 v:=z2
  have z3:rr=[]:=z3
  subst z1 z2 z3
  have W:=(J3 C.ok (zM (φ:=φ) hb3 rfl)).vals
  obtain ⟨vs,v1,v2⟩:=W
  rw[hβ] at v2
  have D:vs.length=7:=by rw[<-xy v1];rfl
  obtain ⟨ii,hi,hz,hs,hby⟩:=qXa
  rcases c2.2 with ⟨_,e5⟩ | ⟨gg,cap,cur,e5,e6,e7,e8,e9,e10,e11⟩
  ·cases e5
  ·have e5:A.cur h.length= .slice (some ⟨gg,0,none⟩) 1 cap:=e5
   have z:=run_append_grow (P:=Tryz.prog) c 27 U.type 3 ii (.int .i64 0) Tryz.underlying27 hi hz ⟨g.β i,0,none⟩ 7 7 vs (by rw[hs,D]) v2 ⟨gg,0,none⟩ 1 cap [.int .i64 v] (by rw[hs];rfl) (λj x hx=>by
     have hj:j=0:=by
      cases j with
      | zero=>rfl
      | succ j=>simp at hx
     subst hj
     have hx:x= .int .i64 v:=by simpa using hx.symm
     subst hx
     have:cur[0]? =some (.int .i64 v):=by
      have:=congrArg (λl:List Value=>l[0]?) e11
      simpa [List.getElem?_take] using this
     simp[World.cell?,e7,Addr.add_lit,this]) (by omega) (by omega) (growslice_fits (by omega) (by rw[hby];omega))
   have σ:=grownCap_ge c 8 7 3
   have ο:=grownCap_le_maxLen c 8 7 3 (by unfold maxLen;omega)
   obtain ⟨G,hG⟩:∃G,G=grownCap c (7+1) 7 3:=⟨_,rfl⟩
   have hG8:grownCap c 8 7 3=G:=hG.symm
   rw[hG8] at σ ο
   rw[<-hG] at z
   obtain ⟨O,Z⟩:∃O:Array Value,O=vs.toArray++ #[Value.int .i64 v]++Builtin.zeroCells (Value.int .i64 0).cells (G - (7+1)):=⟨_,rfl⟩
   have ζ:(vs.toArray++[Value.int .i64 v].toArray++Builtin.zeroCells (Value.int .i64 0).cells (G - (7+1)))=O:=Z.symm
   rw[ζ] at z
   have hsz:O.size=G*1:=by
    rw[Z]
    simp only[Array.size_append,Ve,List.size_toArray,D]
    simp[Value.cells];omega
   have htk:O.toList.take (8*1)=vs++[.int .i64 v]:=by
    rw[Z]
    simp only[Array.toList_append,List.toList_toArray]
    rw[List.take_append_of_le_length (by simp[D])]
    rw[List.take_of_length_le (by simp[D])]
   have ξ:ARs (ctx c A (fill φ E)) ([f 0,f 1,f 2,f 3,f 4,f 5,f 6,v].map zJ).flatten (vs++[.int .i64 v]):=by
    have:=kn v1 (show ARs (ctx c A (fill φ E)) [i64 v] [.int .i64 v] from ⟨_,_,rfl,rfl,rfl⟩)
    exact this
   have ν:Below c.heap.size c (c.drew.alloc (.cells O 3)):=(show Below c.heap.size c c.drew from ⟨rfl,rfl,rfl,Nat.le_refl _,λ_ _=>rfl⟩).alloc (Nat.le_refl _) _
   obtain ⟨m1,m2⟩:=yF C.ok C.hB (ty:=3) (e:=1) (by decide) (xs:=[f 0,f 1,f 2,f 3,f 4,f 5,f 6,v].map zJ) (λx hx=>by
     obtain ⟨y,_,rfl⟩:=List.mem_map.1 hx
     rfl) (v':= .slice (some ⟨c.heap.size,0,none⟩) 8 G) 0 ν
    ⟨by rw[List.length_append,D];rfl,.inr ⟨c.heap.size,G,O,rfl,C.hB,heap_alloc_new c.drew _,σ,ο,hsz,htk⟩⟩ ξ (λb hb=>by injection hb with hb;subst hb;exact Nat.le_refl _)
   have hfl:fill φ (E++[.row 3 1 ([f 0,f 1,f 2,f 3,f 4,f 5,f 6,v].map zJ) 0])=fill φ E++[.row 3 1 ([f 0,f 1,f 2,f 3,f 4,f 5,f 6,v].map zJ) 0]:=jh μ
   rw[qi] at m1 m2
   rw[<-hfl] at m1 m2
   have c3:U.wpIn Fence.wide 0 Tryz.prog a3 c (wpListIn Fence.wide 0 Tryz.prog ops (λe M w'=>∃o h',Q e o h'/\Aft N B φ w g h o h' M w') rest) (λe M w'=>∃o h',Q e o h'/\Aft N B φ w g h o h' M w'):=by
    refine Zd 0 (wp_append_run c (.tmp d) (.tmp m) 27 27 e3 S (.slice (some ⟨gg,0,none⟩) 1 cap) w0 (by rw[e4,e5]) (.slice (some ⟨c.heap.size,0,none⟩) 8 G) (c.drew.alloc (.cells O 3)) (by rw[ρ];exact z) ?_)
    have r4:=vn (x:= .tl E.length 0) (v:= .slice (some ⟨c.heap.size,0,none⟩) 8 G) C m1 m2 hd3
    rw[s3] at r4⊢
    have r5:Rel N B _ _ _ _ (upd (upd (upd (upd T d .bad) F (i64 v)) m (.tl h.length 0)) d3 (.tl (h.length+1) 0)):=w0a r4 (λj=>by
     rw[I,H,J,hl3]
     simp only[zN,upd]
     by_cases j3:j=d3
     ·rw[if_pos j3,if_pos j3];exact .inl rfl
     ·rw[if_neg j3,if_neg j3]
      by_cases j2:j=m
      ·rw[if_pos j2,if_pos j2];exact .inl rfl
      ·rw[if_neg j2,if_neg j2]
       by_cases j1:j=F
       ·rw[if_pos j1,if_pos j1];exact .inl rfl
       ·rw[if_neg j1,if_neg j1]
        by_cases j0:j=d
        ·rw[if_pos j0];exact .inr rfl
        ·rw[if_neg j0,if_neg j0];exact .inl rfl)
    refine wB rest hdr (μ.mono (by rw[List.length_append];omega)) (qCa _ k) r5 ?_
    intro o h' w' M q hq4
    refine ⟨o,h',q,hq4.trans ?_ ((k2.trans k3).trans m1)⟩
    exact (q1.trans q2).trans zW
   unfold wpListIn
   rw[if_pos (by simp[Region.wanted,g3])]
   exact c3
 unfold wpListIn
 rw[if_pos (by simp[Region.wanted,g0])]
 exact c0
end Go.Proofs.YtigdlmpjijhpaaaGreat.Ax
namespace Go.Proofs.YtigdlmpjijhpaaaGreat.Ax
open Go Go.Proofs
set_option maxRecDepth 100000
section
variable {P:Program} {N:Nat} {B:Bs} {Q:jr} {T:Env} {h:List Ob}
theorem vk {c:Code} (k:AWp P N B c Q T h): @wm P N B ⟨(c,Q)⟩ T h:=k
theorem qG {c c':Code} (a:okC N c=true) (k:wpC P N B c (kO (λT h=> @wm P N B ⟨(c',Q)⟩ T h) Q) T h):AWp P N B (.seq c c') Q T h:=JV (qv _ a k)
theorem vra {c c':Code} (k:AWp P N B c (kO (λT h=> @wm P N B ⟨(c',Q)⟩ T h) Q) T h):AWp P N B (.seq c c') Q T h:=JV k
theorem J1 {c c':Code} (S:Env->List Ob->Prop) (a:okC N c=true) (k1:wpC P N B c (kO S Q) T h) (k2:∀T h,S T h->AWp P N B c' Q T h):AWp P N B (.seq c c') Q T h:=
 JV ((qv _ a k1).mono λe T h q=>by cases e<;>first | exact k2 _ _ q | exact q)
end
def YD (s:Setup) (w:Nat):Int:=s.rates.getD w 0
def y8 (s:Setup) (w:Nat) (t:Nat->Int) (j:Nat):Int:=if j=0 then 0 else z4a (wr (YA (t j)*Kg s (YD s w) j)) 7200
def YE (t:Nat->Int):Nat->Int
 | 0=>0
 | j+1=>if j=0 then 0 else wr (YE t j+YA (t j))
def yOa (s:Setup) (i:Nat):Int:=(s.tiers.getD i (0,0)).2
def vW (s:Setup) (g tier:Int):Int:=if 0<=tier/\tier<s.tiers.length then z4a (wr (YA g*yOa s tier.toNat)) 3600 else 0
structure PayR where
 pays:Nat->Int
 extra:Int
 supp:Int
 total:Int
def w2a (s:Setup) (w:Nat) (t:Nat->Int) (g tier:Int):PayR:=
 let p:=y8 s w t
 let e:=vW s g tier
 let sum:=(Kh 0 [p 0,p 1,p 2,p 3,p 4,p 5,p 6,e]).1
 let least:=(upI (wr (YE t 7*s.least)) 3600).1
 let supp:=max 0 (wr (least - sum))
 ⟨p,e,supp,wr (sum+supp)⟩
def w3a (p:PayR):AV:= .tup [.ag (kF p.pays),i64 p.extra,i64 p.supp,i64 p.total,i64 0]
structure PB (h h':List Ob) (s:Setup) (a:SA) (t u:Nat->Int):Prop where
 pre:Pre h h'
 set_:h'[h.length]? =some (.box 30 (zr s a))
 tot:h'[h.length+1]? =some (.box 42 (kF t))
 pay:h'[h.length+2]? =some (.box 42 (kF u))
theorem PB.app {h h':List Ob} {s:Setup} {a:SA} {t u:Nat->Int} (k:PB h h' s a t u) {M:List Ob} (b:NoRes M):PB h (h'++M) s a t u:=⟨k.pre.app b,zb k.set_,zb k.tot,zb k.pay⟩
theorem PB.put {h h':List Ob} {s:Setup} {a:SA} {t u b:Nat->Int} (k:PB h h' s a t u):PB h (h'.set (h.length+2) (.box 42 (kF b))) s a t b:=
 ⟨k.pre.set (by omega) rfl,by rw[List.getElem?_set_ne (by omega)];exact k.set_,by rw[List.getElem?_set_ne (by omega)];exact k.tot,zh k.pay⟩
theorem Xha (h:List Ob) (s:Setup) (a:SA) (k:SIn h s a) (f:SFit s) (X:zE s=true) (w:Nat) (hw:w<s.rates.length) (t:Nat->Int) (g tier:Int):
  ACalls Tryz.prog 60 [qj s a,i64 w,.ag (kF t),i64 g,i64 tier] h λr h'=>r=w3a (w2a s w t g tier)/\h'=h:=by
 have ξ:=k.r.rows
 refine vu (N:=105) (rs:=[.cell 10 42,.tmp 11,.tmp 12,.tmp 13,.tmp 14]) (fn:=Tryz.f60) rfl rfl rfl rfl (Nat.le_of_ble_eq_true rfl) rfl (⟨_,_,⟨rfl,rfl⟩,.refl⟩) λB=>?_
 refine qG (by decide) ?_
 simp only[go_sem,k.ones]
 refine vk (qG (by decide) ?_)
 simp only[go_sem,k.ones]
 refine zd (c16 _ s a (k.app _) f) ?_
 rintro _ J ⟨rfl,rfl⟩
 simp only[go_sem,X,zL,Bool.not_true]
 refine vk (qG (by decide) ?_)
 have P:decide ((w:Int)<0)=false:=by rw[decide_eq_false_iff_not];omega
 have K:decide ((w:Int)≥(s.rates.length:Int))=false:=by rw[decide_eq_false_iff_not];omega
 have η:∀M,zo (h++M) a.r=some (s.rates.map zJ):=λM=>(k.app M).r.rows
 simp only[go_sem,P,zL,η,K,List.length_map]
 refine vk (qG (by decide) ?_)
 simp only[go_sem]
 refine vk (qG (by decide) ?_)
 simp only[go_sem]
 refine zk (by decide) (λm T h'=>∃n:Nat,n<=7/\PB h h' s a t (λj=>if j<n then y8 s w t j else 0)/\T 1=i64 w/\T 3=i64 g/\T 4=i64 tier/\T 5= .ptr h.length 0/\T 7= .ptr (h.length+1) 0/\T 10= .ptr (h.length+2) 0/\T 11=i64 0/\T 15=i64 (YE t n)/\T 34=i64 n/\m=7 - n) 7
  ⟨0,by omega,⟨⟨_,rfl,zg rfl (zg rfl (zj rfl))⟩,by rw[zm rfl];rfl,by rw[zl (k:=1) rfl];rfl,by rw[zl (k:=2) rfl];rfl⟩,by simp only[go_sem],by simp only[go_sem],by simp only[go_sem],by simp only[go_sem],by simp only[go_sem],by simp only[go_sem],by simp only[go_sem],by (simp only[go_sem]<;>rfl),by (simp only[go_sem]<;>rfl),rfl⟩ ?_
 rintro m T h' ⟨n,hn,u,t1,t3,t4,t5,W,t10,o,v,y,rfl⟩
 simp only[go_sem,y]
 refine ways (λe=>?_) (λe=>?_)
 ·have x:(n:Int)<7:=of_decide_eq_true e
  have l:n<7:=by omega
  simp only[go_sem,y]
  refine ways (λe0=>?_) (λe0=>?_)
  ·have D:n=0:=by simpa using e0
   subst D
   simp only[go_sem,y]
   have hu:(λj:Nat=>if j<0+1 then y8 s w t j else 0)=λj=>if j<0 then y8 s w t j else 0:=by
    funext j
    by_cases hj:j=0
    ·subst hj;rfl
    ·rw[if_neg (by omega),if_neg (by omega)]
   exact ⟨6,by omega,1,by omega,by rw[hu];exact u,t1,t3,t4,t5,W,t10,o,v,rfl,rfl⟩
  ·have D:¬ n=0:=by simpa using e0
   have Y:=u.tot
   have hg:=voa t l
   simp only[go_sem,W,y,Y,hg,x,l,Nat.mul_one,Nat.zero_add,Int.toNat_natCast,Int.natCast_nonneg]
   refine zd (YB _ _) ?_
   rintro _ A ⟨rfl,e2⟩
   rw[e2]
   simp only[go_sem,v]
   refine zp rfl [] 0 [(0,0,[]),(1,0,[]),(3,0,[]),(5,0,[]),(8,0,[]),(2,0,[]),(4,0,[]),(6,0,[]),(7,0,[]),(9,0,[]),(10,0,[]),(11,0,[]),(12,0,[]),(13,0,[])] rfl (by decide) (by decide) ?_
   have b:=u.set_
   have z:=u.pay
   have d:=((u.pre.sin k).r).rows
   have F:=((u.pre.sin k).r).at (i:=w) (by rw[List.length_map];exact hw)
   have c:(s.rates.map zJ)[w]? =some [i64 (YD s w)]:=by
    rw[List.getElem?_map,List.getElem?_eq_getElem hw]
    simp[YD,List.getD,hw,zJ]
   have H:(w:Int)<s.rates.length:=by omega
   have E:=Yy (λj=>if j<n then y8 s w t j else 0) l (y8 s w t n)
   have Z:(λj:Nat=>if j=n then y8 s w t n else if j<n then y8 s w t j else 0)=λj:Nat=>if j<n+1 then y8 s w t j else 0:=by
    funext j
    by_cases J:j=n
    ·subst J;rw[if_pos rfl,if_pos (by omega)]
    ·rw[if_neg J]
     by_cases A:j<n
     ·rw[if_pos A,if_pos (by omega)]
     ·rw[if_neg A,if_neg (by omega)]
   rw[Z] at E
   simp only[go_sem,t1,t5,t10,y,b,z,d,F,c,H,x,l,List.length_map,Nat.mul_one,Nat.zero_add,Int.toNat_natCast,Int.natCast_nonneg]
   refine zd (ZNa _ s a (u.pre.sin k) (YD s w) n (by omega)) ?_
   rintro _ h3 ⟨rfl,R⟩
   rw[R]
   simp only[go_sem,t1,t5,t10,y,b,z,d,F,c,H,x,l,List.length_map,Nat.mul_one,Nat.zero_add,Int.toNat_natCast,Int.natCast_nonneg]
   refine zd (yNa _ _ _) ?_
   rintro _ h4 ⟨rfl,O⟩
   rw[O]
   have γ:z4a (IntKind.wrap .i64 (YA (t n)*Kg s (YD s w) n)) 7200=y8 s w t n:=by unfold y8;rw[if_neg D]
   rw[γ]
   simp only[go_sem,t1,t5,t10,y,b,z,d,F,c,H,E,x,l,List.length_map,Nat.mul_one,Nat.zero_add,Int.toNat_natCast,Int.natCast_nonneg]
   exact ⟨7 - (n+1),by omega,n+1,by omega,u.put,t3,t4,W,o,by rw[YE,if_neg D],zw (by omega) rfl,rfl⟩
 ·have K:¬ (n:Int)<7:=of_decide_eq_false e
  have θ:n=7:=by omega
  subst θ
  simp only[go_sem]
  have χ:(λj:Nat=>if j<7 then y8 s w t j else 0)=λj:Nat=>if j<7 then y8 s w t j else 0:=rfl
  refine vk (J1 (λQ A=>PB h A s a t (λj=>if j<7 then y8 s w t j else 0)/\Q 5= .ptr h.length 0/\Q 10= .ptr (h.length+2) 0/\Q 11=i64 (vW s g tier)/\Q 15=i64 (YE t 7)) (by decide) ?_ ?_)
  ·have b:=u.set_
   have d:=((u.pre.sin k).t).rows
   simp only[go_sem,t4,t5,b,d,List.length_map]
   cases S:decide (tier≥0)
   ·have J:¬ tier≥0:=of_decide_eq_false S
    have hex:vW s g tier=0:=by unfold vW;rw[if_neg (λq=>J q.1)]
    simp only[go_sem,S,zL]
    rw[hex]
    exact ⟨u,t5,t10,o,v⟩
   ·have J:0<=tier:=of_decide_eq_true S
    cases V:decide (tier<s.tiers.length)
    ·have A:¬ tier<s.tiers.length:=of_decide_eq_false V
     have hex:vW s g tier=0:=by unfold vW;rw[if_neg (λq=>A q.2)]
     simp only[go_sem,S,V,zL,t4,t5,b,d,List.length_map]
     rw[hex]
     exact ⟨u,t10,o,v⟩
    ·have A:tier<s.tiers.length:=of_decide_eq_true V
     simp only[go_sem,S,V,zL,t4,t5,b,d,List.length_map]
     obtain ⟨C,ζ⟩:∃C:Nat,(C:Int)=tier:=⟨tier.toNat,by omega⟩
     subst ζ
     have x:C<s.tiers.length:=by omega
     have I:=((u.pre.sin k).t).at (i:=C) (by rw[List.length_map];exact x)
     have c:(s.tiers.map qz)[C]? =some [i64 (s.tiers.getD C (0,0)).1,i64 (s.tiers.getD C (0,0)).2]:=by
      rw[List.getElem?_map,List.getElem?_eq_getElem x]
      simp[List.getD,x,qz]
     have hex:vW s g C=z4a (wr (YA g*yOa s C)) 3600:=by unfold vW;rw[if_pos ⟨by omega,A⟩];rfl
     refine zp rfl [] 0 [(0,0,[]),(2,0,[]),(4,0,[]),(3,0,[]),(5,0,[]),(6,0,[]),(7,0,[]),(1,0,[3,5,7]),(8,0,[]),(9,0,[]),(10,0,[])] rfl (by decide) (by decide) ?_
     simp only[go_sem,t3,t4,t5,b,d,I,c,A,List.length_map,Int.toNat_natCast,Int.natCast_nonneg]
     refine zd (YB _ _) ?_
     rintro _ h3 ⟨rfl,R⟩
     rw[R]
     simp only[go_sem,t3,t4,t5,b,d,I,c,A,List.length_map,Int.toNat_natCast,Int.natCast_nonneg]
     refine zd (yNa _ _ _) ?_
     rintro _ h4 ⟨rfl,O⟩
     rw[O]
     rw[show z4a (IntKind.wrap .i64 (YA g*(s.tiers.getD C (0,0)).2)) 3600=vW s g C from hex.symm]
     simp only[go_sem,t3,t4,t5,b,d,I,c,A,List.length_map,Int.toNat_natCast,Int.natCast_nonneg]
     exact ⟨u,t10,v⟩
  ·clear t1 t3 t4 t5 W t10 o v y u
   rintro Q A ⟨u,t5,t10,o,v⟩
   refine vra (w1a (λj=>if j<7 then y8 s w t j else 0) (vW s g tier) rfl (by decide) rfl rfl rfl rfl rfl rfl rfl rfl rfl rfl rfl rfl (by decide) (by decide) (by decide) t10 u.pay o ?_)
   simp only[go_sem]
   obtain ⟨p,hp⟩:∃p,p=y8 s w t:=⟨_,rfl⟩
   obtain ⟨e,he⟩:∃e,e=vW s g tier:=⟨_,rfl⟩
   rw[<-hp, <-he]
   refine zd (Xga _ (.tl (A.length+1) 0) [p 0,p 1,p 2,p 3,p 4,p 5,p 6,e] ⟨by rw[zP,zl (k:=1) rfl];rfl,λ_=>by rw[qR,zl (k:=1) rfl];rfl⟩ (by show 8<1048576;decide)) ?_
   rintro _ h3 ⟨rfl,R⟩
   rw[R]
   simp only[go_sem,QU]
   refine vk (qG (by decide) ?_)
   have G:=(u.app (M:=[.row 3 1 [[i64 e]] 0,.row 3 1 [zJ (p 0),zJ (p 1),zJ (p 2),zJ (p 3),zJ (p 4),zJ (p 5),zJ (p 6),zJ e] 0]) (zg rfl (zj rfl)))
   have b:=G.set_
   have z:(A++[.row 3 1 [[i64 e]] 0,.row 3 1 [zJ (p 0),zJ (p 1),zJ (p 2),zJ (p 3),zJ (p 4),zJ (p 5),zJ (p 6),zJ e] 0])[h.length+2]? =some (.box 42 (kF p)):=by
    have:=G.pay
    rw[show (kF λj=>if j<7 then y8 s w t j else 0)=kF p by rw[hp];rfl] at this
    exact this
   simp only[go_sem,t5,v,b]
   refine zd (cUp _ _ _) ?_
   rintro _ h4 ⟨rfl,O⟩
   rw[O]
   simp only[go_sem,QU]
   refine vk (qv _ (by decide) ?_)
   have hq:w2a s w t g tier=⟨p,e,max 0 (wr ((upI (wr (YE t 7*s.least)) 3600).1 - (Kh 0 [p 0,p 1,p 2,p 3,p 4,p 5,p 6,e]).1)),wr ((Kh 0 [p 0,p 1,p 2,p 3,p 4,p 5,p 6,e]).1+max 0 (wr ((upI (wr (YE t 7*s.least)) 3600).1 - (Kh 0 [p 0,p 1,p 2,p 3,p 4,p 5,p 6,e]).1)))⟩:=by rw[hp,he];rfl
   rw[hq]
   obtain ⟨S0,υ⟩:∃S0,S0=(Kh 0 [p 0,p 1,p 2,p 3,p 4,p 5,p 6,e]).1:=⟨_,rfl⟩
   obtain ⟨U,hU⟩:∃U,U=(upI (wr (YE t 7*s.least)) 3600).1:=⟨_,rfl⟩
   simp only[go_sem,t10,z]
   rw[zZ z]
   obtain ⟨L,hL,hN⟩:=G.pre
   refine ⟨w3a _,?_,.inr ⟨h,L,hL,rfl,rfl,.refl,rfl,rfl⟩⟩
   rw[<-he] at o
   simp only[go_sem,t10,o,z,w3a,yb]
set_option maxRecDepth 100000
theorem Vl {c:Ctx}:∀ {xs:List AV} {x:AV} {us:List Value},ARs c (xs++[x]) us->∃b u,us=b++[u]/\ARs c xs b/\AR c x u
 | [],x,us,⟨u,r,f,e,d⟩=>by
   have d:r=[]:=d
   subst d
   exact ⟨[],u,f,rfl,e⟩
 | a::xs,x,us,⟨u,r,f,e,d⟩=>by
   obtain ⟨b,v,i,g,h⟩:=Vl d
   subst i
   exact ⟨u::b,v,f,⟨u,b,rfl,e,g⟩,h⟩
theorem KD {P:Program} {f:FuncId} {ar:List AV} {h:List Ob} {j:List AV} {e:Nat} {rows:List (List AV)} (z:0<e) (d:zQ h.length j=true) (o:qb h.length rows=true) (c:ACalls P f ar h λr h'=>∃L x,h'=h++L/\NoRes L/\r= .ag (j++[x])/\New h e x rows L):ACalls P f ar h λr h'=>r= .ag (j++[.sl e rows])/\h'=h:=by
 refine ⟨c.1,⟨_,_,⟨rfl,rfl⟩,.refl⟩,λφ m B w g vs l hB b=>?_⟩
 refine (c.2.2 φ m B w g vs l hB b).mono λD w' ⟨v,r,h',g',t,⟨L,x,p,_,A,n1⟩,_,i,k⟩=>?_
 subst p A
 rw[jh m] at i k
 have a:(fill φ h).length=h.length:=qi
 obtain ⟨us,rfl,q⟩:=k
 obtain ⟨s,u,C,n,y⟩:=Vl q
 refine ⟨_,_,h,g',t,⟨rfl,rfl⟩,.refl,i.drop rfl (by have:=l.ids;exact this),us,rfl,?_⟩
 rw[C]
 exact kn (ARs.less (km w' g' (fill φ h) L) _ _ (by rw[qi];exact d) n) ⟨u,[],rfl,Q0 i.ok z y (n1 _ a) (λid hid=>by rw[a];exact n1.root id hid) (by rw[a];exact o),rfl⟩
theorem vza {n:Nat}:∀l:List Seg,qb n (l.map xf)=true
 | []=>rfl
 | s::l=>by
   rw[List.map_cons,qb,vza l];rfl
theorem qca {n:Nat}:∀l:List Flg,qb n (l.map xP)=true
 | []=>rfl
 | s::l=>by
   rw[List.map_cons,qb,qca l];rfl
theorem yda (h:List Ob) (s:Setup) (a:SA) (k:SIn h s a) (f:SFit s) (x:AV) (l:List Ev) (w:Int) (b:SlOf h x 11 (l.map evC)) (c:l.length<1048576):
  ACalls Tryz.prog 21 [qj s a,x,i64 w] h λr h'=>r= .tup [.sl 5 ((zR s l w).1.map xf),.sl 2 ((zR s l w).2.map xP)]/\h'=h:=
 Ye (by decide) (by decide) (vza _) (qca _) (c21 h s a k f x l w b c)
def xG (s:Setup) (w k:Int):Int:=if !zE s then 70 else if w<0∨(s.rates.length:Int)<=w then 80 else if k<0∨52<k then 212 else 0
theorem ZQa (h:List Ob) (s:Setup) (a:SA) (k:SIn h s a) (f:SFit s) (w wk:Int):
  ACalls Tryz.prog 51 [qj s a,i64 w,i64 wk] h λr h'=>r=i64 (xG s w wk)/\h'=h:=by
 have c:∀M,zo (h++M) a.r=some (s.rates.map zJ):=λM=>(k.app M).r.rows
 refine zf Tryz.f51 [.tmp 6] 28 rfl rfl rfl rfl rfl rfl (by decide) (⟨_,_,⟨rfl,rfl⟩,.refl⟩) λB=>?_
 simp only[go_sem,k.ones]
 refine zd (c16 _ s a (k.app _) f) ?_
 rintro _ d ⟨rfl,rfl⟩
 cases b:zE s
 ·simp only[go_sem,b,zL,Bool.not_false]
  (first | refine zc ?_ | refine ze ?_ (by rfl))<;>(simp only[go_sem,xG,b]<;>try rfl)
 ·simp only[go_sem,b,zL,Bool.not_true]
  cases e:decide (w<0)
  ·have d:¬ w<0:=of_decide_eq_false e
   cases g:decide (w≥(s.rates.length:Int))
   ·have i:¬ (s.rates.length:Int)<=w:=of_decide_eq_false g
    cases j:decide (wk<0)
    ·have l:¬ wk<0:=of_decide_eq_false j
     cases m:decide (wk>52)
     ·have n:¬ 52<wk:=of_decide_eq_false m
      simp only[go_sem,e,g,j,m,zL,c,List.length_map]
      (first | refine zc ?_ | refine ze ?_ (by rfl))<;>(simp only[go_sem,xG,b,d,i,l,n]<;>try rfl)
     ·have n:52<wk:=of_decide_eq_true m
      simp only[go_sem,e,g,j,m,zL,c,List.length_map]
      (first | refine zc ?_ | refine ze ?_ (by rfl))<;>(simp only[go_sem,xG,b,d,i,l,n]<;>try rfl)
    ·have l:wk<0:=of_decide_eq_true j
     simp only[go_sem,e,g,j,zL,c,List.length_map]
     (first | refine zc ?_ | refine ze ?_ (by rfl))<;>(simp only[go_sem,xG,b,d,i,l]<;>try rfl)
   ·have i:(s.rates.length:Int)<=w:=of_decide_eq_true g
    simp only[go_sem,e,g,zL,c,List.length_map]
    (first | refine zc ?_ | refine ze ?_ (by rfl))<;>(simp only[go_sem,xG,b,d,i]<;>try rfl)
  ·have d:w<0:=of_decide_eq_true e
   simp only[go_sem,e,zL]
   (first | refine zc ?_ | refine ze ?_ (by rfl))<;>(simp only[go_sem,xG,b,d]<;>try rfl)
def yq (s:Setup) (w:Int) (e:Ev):Bool:=e.worker != w || !yR s e
theorem Jga (h:List Ob) (s:Setup) (a:SA) (k:SIn h s a) (i j:Nat) (w:Int) (f:h[i]? =some (.box 30 (zr s a))) (d:h[j]? =some (.box 3 [i64 w])) (e:Ev):
  ACalls Tryz.prog 54 [evV e,.ptr j 0,.ptr i 0] h λr h'=>r=bl (yq s w e)/\h'=h:=by
 have b:∀M,(h++M)[i]? =some (.box 30 (zr s a)):=λM=>zb f
 have c:∀M,(h++M)[j]? =some (.box 3 [i64 w]):=λM=>zb d
 refine zf Tryz.f54 [.tmp 4] 15 rfl rfl rfl rfl rfl rfl (by decide) (⟨_,_,⟨rfl,rfl⟩,.refl⟩) λB=>?_
 simp only[go_sem,b,c,k.ones]
 cases q:e.worker != w
 ·simp only[go_sem,q,zL,b]
  refine zd (c14 _ s a (k.app _) e) ?_
  rintro _ g ⟨rfl,rfl⟩
  simp only[go_sem]
  (first | refine zc ?_ | refine ze ?_ (by rfl))<;>(simp only[go_sem,yq,q]<;>try rfl)
 ·simp only[go_sem,q,zL]
  (first | refine zc ?_ | refine ze ?_ (by rfl))<;>(simp only[go_sem,yq,q]<;>try rfl)
theorem Jha (h:List Ob) (j:Nat) (f:Flg) (b:h[j]? =some (.box 105 (xP f))) (e:Ev):
  ACalls Tryz.prog 62 [evV e,.ptr j 0] h λr h'=>r=bl (e.id==f.id)/\h'=h:=by
 have a:∀M,(h++M)[j]? =some (.box 105 [i64 f.id,i64 f.kind]):=λM=>zb b
 refine zf Tryz.f62 [.tmp 3] 9 rfl rfl rfl rfl rfl rfl (by decide) (⟨_,_,⟨rfl,rfl⟩,.refl⟩) λB=>?_
 simp only[go_sem,a]
 (first | refine zc ?_ | refine ze ?_ (by rfl))<;>(simp only[go_sem]<;>try rfl)
end Go.Proofs.YtigdlmpjijhpaaaGreat.Ax
