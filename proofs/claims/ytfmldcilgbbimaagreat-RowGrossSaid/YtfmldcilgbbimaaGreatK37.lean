/-
  Joined.
-/
import Derived.Test.YtfmldcilgbbimaaGreatK35
import Derived.Test.YtfmldcilgbbimaaGreatK36
import Derived.Lib.AppendZeros
import Derived.Test.YtfmldcilgbbimaaGreatK33
import Derived.Test.YtfmldcilgbbimaaGreatK30
set_option linter.unusedSimpArgs false
set_option linter.unusedVariables false
namespace Go.Proofs.YtfmldcilgbbimaaGreat.Ax
open Go Go.Proofs Go.Shelf Go.RowKit Go.Lib Go.Sort
set_option maxRecDepth 100000
structure Pt where
 from_:Int
 to_:Int
 kind:Int
instance:Inhabited Pt:=⟨⟨0,0,0⟩⟩
def qCa (x:Pt):List Value:=[.int .i64 x.from_,.int .i64 x.to_,.int .i64 x.kind]
def ptC (x:Pt):List AV:=[i64 x.from_,i64 x.to_,i64 x.kind]
theorem yoa {n:Nat}:∀l:List Pt,z6 n (l.map ptC)=true
 | []=>rfl
 | s::l=>by
   rw[List.map_cons,z6,yoa l];rfl
set_option maxHeartbeats 1000000 in
theorem j2a (x y:Pt) (W:World):Calls Tryz.prog 107 #[.agg #[.int .i64 x.from_,.int .i64 x.to_,.int .i64 x.kind],.agg #[.int .i64 y.from_,.int .i64 y.to_,.int .i64 y.kind]] W λe w'=>e= .returned (.int .i64 (Lib.compareInt x.from_ y.from_))/\∃q b,w'=grow (W.drewN q) b:=by
 have a:=λc=>AnyG.cmp_Compare_int kxa x.from_ y.from_ c
 change ∀c,Calls Tryz.prog 108 _ _ _ at a
 generalize Lib.compareInt x.from_ y.from_=r at a⊢
 go_enter Tryz.func107,Tryz.ntmps107
 go_wp2_with (go_at_call 108;refine (a _).mono ?_;rintro e w' ⟨rfl,rfl⟩)
 go_ret
 exact ⟨rfl,0,_,by rw[alloc_eq_grow,alloc_eq_grow,grow_grow];rfl⟩
theorem j3a (blk off size:Nat) (w:World):CmpLays Tryz.prog 107 #[] qCa 3 (λx y=>Lib.compareInt x.from_ y.from_) blk off size w:=
 λ_ _ _ _ x y=>j2a x y _
theorem wBa (x y:Pt):ltOf (λx y:Pt=>Lib.compareInt x.from_ y.from_) x y=decide (x.from_<y.from_):=by
 unfold ltOf Lib.compareInt
 by_cases a:x.from_<y.from_
 ·simp[a]
 ·by_cases b:y.from_<x.from_<;>simp[a,b]
theorem QLa:SWO (ltOf λx y:Pt=>Lib.compareInt x.from_ y.from_):=
 { irrefl:=λx=>by rw[wBa];simp
   trans:=λx y z b a=>by rw[wBa] at *; simp at *; omega
   ntrans:=λx y z b a=>by rw[wBa] at *; simp at *; omega }
theorem wCa (h:List Ob) (id st:Nat) (l:List Pt) (n:h[id]? =some (.row 175 3 (l.map ptC) st)) (m:l.length<1099511627776):
  ACalls Tryz.prog 106 [.tl id st,.fn (.func 107) [] []] h λr h'=>r= .tup []/\∃l':List Pt,l'.Perm l/\(l'.Pairwise λa b=>ltOf (λx y:Pt=>Lib.compareInt x.from_ y.from_) b a=false)/\h'=h.set id (.row 175 3 (l'.map ptC) st):=by
 refine Zka qCa 3 (by decide) (λ_=>rfl) (ltOf λx y:Pt=>Lib.compareInt x.from_ y.from_) (by kernel_rfl) (λl=>?_) ?_ ?_ h id st l n m
 ·refine ⟨_,List.mergeSort_perm l (λa b=>decide (a.from_<=b.from_)),?_⟩
  have:=List.pairwise_mergeSort (le:=λa b:Pt=>decide (a.from_<=b.from_)) (λa b c p o=>by simp at *; omega) (λa b=>by simp;omega) l
  exact this.imp λh=>by rw[wBa];simpa using h
 ·intro blk off cap d w k f g
  have j:∀args w,(callFunc 107 args).run Tryz.prog w= .ok (.enter 107 args) w:=enters_of Tryz.func107 (by kernel_rfl) rfl
  have e:=AnyQ.slices_SortFunc X9 3 Tryz.isAgg175 Tryz.sizeOf175 qCa (λ_=>rfl) (λx v i=>by simp[qCa] at i;rcases i with rfl | rfl | rfl<;>rfl) (λx y=>Lib.compareInt x.from_ y.from_) QLa 107 #[] blk off cap d w j (j3a blk off d.size w) k f g
  exact e
 ·intro A cap w
  have e:=AnyF.slices_SortFunc_none X9 A cap (.func (.func 107) #[] #[]) w
  exact e
theorem k4a (x:AV):qX Tryz.prog 106 [.v (.slice none 0 0),x] (.tup []):=λh=>by
 refine ⟨by kernel_rfl,⟨_,_,⟨rfl,rfl⟩,.refl⟩,?_⟩
 intro φ l B w g vs j hB a
 obtain ⟨v1,k,rfl,d,i,f,rfl,_,c⟩:=a
 have c:f=[]:=c
 subst c
 have d:v1= .slice none 0 0:=d
 subst d
 have b:=AnyF.slices_SortFunc_none X9 none 0 i w
 refine Calls.mono b ?_
 rintro e w' ⟨rfl,rfl⟩
 exact ⟨_,_,_,_,rfl,⟨rfl,rfl⟩,.refl,Good.refl j hB, #[],rfl,rfl⟩
def vU (l:List Spn) (k:Int):List Pt:=l.map λs=>⟨s.from_,s.to_,k⟩
theorem kL (l:List Spn) (k:Int):(vU l k).length=l.length:=by simp[vU]
theorem Zla (F:List (Nat × Ob)) (h0 h:List Ob) (i:Nat) (p:List Pt) (l:List Spn) (a:Int) (k:LIn F h0 h i 117 175 3 (p.map ptC)) (O:p.length<1073741824) (N:l.length<1073741824):
  ACalls Tryz.prog 102 [spv l,i64 a,.ptr i 0] h λr h'=>r= .tup []/\LIn F h0 h' i 117 175 3 ((p++vU l a).map ptC):=by
 have hex:∃r h',(r=AV.tup []/\LIn F h0 h' i 117 175 3 ((p++vU l a).map ptC))/\ResK h h':=by
  obtain ⟨h',K,J⟩:=k.any ((p++vU l a).map ptC)
  exact ⟨_,h',⟨rfl,K⟩,J⟩
 refine zf Tryz.f102 [] 23 rfl rfl rfl rfl rfl rfl (by decide) (hex) λB=>?_
 simp only[go_sem,List.length_map]
 refine zk (by decide) (λm T h'=>∃n:Nat,n<=l.length/\LIn F h0 h' i 117 175 3 ((p++vU (l.take n) a).map ptC)/\T 1=i64 a/\T 2= .ptr i 0/\T 7=spv l/\T 8=i64 l.length/\T 9=i64 n/\m=l.length - n) l.length
  ⟨0,by omega,by simpa [vU] using k,by simp only[go_sem],by simp only[go_sem],by simp only[go_sem],by (simp only[go_sem]<;>rfl),by (simp only[go_sem]<;>rfl),rfl⟩ ?_
 clear k hex
 rintro m T h' ⟨n,Q,k,t1,t2,A,t8,t9,rfl⟩
 simp only[go_sem,t8,t9]
 refine ways (λe=>?_) (λe=>?_)
 ·have o:=dlt e
  have c:=yb o
  have t:(n:Int)<l.length:=by omega
  have b:(p++vU (l.take (n+1)) a).map ptC=(p++vU (l.take n) a).map ptC++[[i64 (l[n]).from_,i64 (l[n]).to_,i64 a]]:=by
   rw[show l.take (n+1)=l.take n++[l[n]] from (List.take_append_getElem o).symm]
   simp only[vU,List.map_append,List.map_cons,List.map_nil,List.append_assoc]
   rfl
  have f:((p++vU (l.take n) a).length+1)*25<=140737488355328:=by
   rw[List.length_append,kL,List.length_take];omega
  obtain ⟨z,D⟩:∃z,z=l[n]:=⟨_,rfl⟩
  rw[<-D] at c b
  obtain ⟨P,C⟩:∃P,P=(p++vU (l.take n) a):=⟨_,rfl⟩
  rw[<-C] at b f k
  obtain ⟨G,d,v⟩:=k.at_
  have L:=k.lt
  have g:∀M,(h'++M)[i]? =some (.box 117 [G]):=λM=>zb d
  rcases v with ⟨rfl,j⟩ | ⟨id,st,E,rfl,u⟩
  ·simp only[go_sem,t1,t2,A,t9,c,t,d,g,List.length_map,Int.toNat_natCast,Int.natCast_nonneg]
   rw[j,List.nil_append] at b
   have q:=k.push_nil (M:=[.box 134 (zD z),.row 175 3 [[i64 z.from_,i64 z.to_,i64 a]] 0,.row 175 3 [[i64 z.from_,i64 z.to_,i64 a]] 0]) (zg rfl (zg rfl (zj rfl))) (id:=h'.length+2) (by omega) (by rw[zl (k:=2) rfl];rfl)
   rw[<-b] at q
   exact ⟨l.length - (n+1),by omega,n+1,by omega,by rw[b] at q ⊢;exact q,t8,zy (by omega) rfl,rfl⟩
  ·have H:∀M,(h'++M)[id]? =some (.row 175 3 (P.map ptC) st):=λM=>zb u
   have y:id≠i:=λq=>by rw[q,d] at u;cases u
   have s:∀M o',((h'++M).set id o')[i]? =some (.box 117 [.tl id st]):=λM o'=>by
    rw[List.getElem?_set_ne y];exact g M
   simp only[go_sem,t1,t2,A,t9,c,t,d,g,H,s,f,List.length_map,Int.toNat_natCast,Int.natCast_nonneg]
   have w:∀M,NoRes M->LIn F h0 (((h'++M).set id (.row 175 3 (P.map ptC++[[i64 z.from_,i64 z.to_,i64 a]]) (st+1))).set i (.box 117 [.tl id (st+1)])) i 117 175 3 ((p++vU (l.take (n+1)) a).map ptC):=λM w=>by
    rw[b];exact k.push_own w E u
   exact ⟨l.length - (n+1),by omega,n+1,by omega,w _ (zg rfl (zj rfl)),t8,zy (by omega) rfl,rfl⟩
 ·have I:=jd e
  have x:n=l.length:=by omega
  subst x
  rw[List.take_length] at k
  simp only[go_sem]
  exact ⟨_,rfl,.inl ⟨rfl,k⟩⟩
theorem Yn {P:Program} {f:FuncId} {ar:List AV} {h:List Ob} {α:Type} {S:α->Prop} {g:α->List (List AV)} {e:Nat} (o:0<e) (p:∀q,z6 h.length (g q)=true) (c:ACalls P f ar h λr h'=>∃q,S q/\∃L,h'=h++L/\NoRes L/\New h e r (g q) L):ACalls P f ar h λr h'=>(∃q,S q/\r= .sl e (g q))/\h'=h:=by
 refine ⟨c.1,(let ⟨_,_,⟨q,i,_⟩,_⟩:=c.2.1;⟨_,_,⟨⟨q,i,rfl⟩,rfl⟩,.refl⟩),λφ k B w s vs m hB b=>?_⟩
 refine (c.2.2 φ k B w s vs m hB b).mono λu w' ⟨v,r,h',g',t,⟨q,i,L,n,_,l⟩,_,d,j⟩=>?_
 subst n
 rw[q8 k] at d j
 have a:(fill φ h).length=h.length:=qc
 refine ⟨v,_,h,g',t,⟨⟨q,i,rfl⟩,rfl⟩,.refl,d.drop rfl (by have:=m.ids;exact this),?_⟩
 exact QW d.ok o j (l _ a) (λid hid=>by rw[a];exact l.root id hid) (by rw[a];exact p q)
def oj (o:List Spn × List Spn × List Spn):Nat->List Spn
 | 0=>o.1
 | 1=>o.2.1
 | _=>o.2.2
def Zm (s:Setup) (o:List Spn × List Spn × List Spn) (a:List Spn):Nat->List Pt
 | 0=>vU a 0
 | j+1=>Zm s o a j++vU (qf (oj o j) (qy s (oj o j))) (1+j)++vU (qy s (oj o j)) (4+j)
def xQ (s:Setup) (l:List Seg) (w:Int):List Pt:=Zm s (yU s (vO s l) w) (zZ (xP s l) w) 3
theorem Q4 (s:Setup) (l:List Spn):(qy s l).length<=l.length+742:=by
 unfold qy
 split
 ·have d:=XL l (xj s (zF l))
  have a:=zq l
  have e:=zq (xj s (zF l))
  have b:=ye s (zF l)
  have c:=kK l
  omega
 ·simp
theorem Yo (s:Setup) (p:List Spn) (w:Int):(yU s p w).1.length<=p.length+372/\(yU s p w).2.1.length<=2*p.length+745/\(yU s p w).2.2.length<=2*p.length+745:=by
 have a:=kx (jO (zZ p w)).1
 have e:=ky (zZ p w) s.dayReg _ a
 have b:=ky (zZ p w) s.dayOver _ a
 have i:=kK (zZ p w)
 have j:(zZ p w).length<=(zw p).length+1:=wE _ _ _
 have k:=zq p
 have o:(zE (vT s (zZ p w) (zF (zZ p w))) s.weekReg).length<=(zw (vT s (zZ p w) (zF (zZ p w)))).length:=qW _ _
 have n:=zq (vT s (zZ p w) (zF (zZ p w)))
 have l:=qK (wt s (zZ p w) (zF (zZ p w))) (zE (vT s (zZ p w) (zF (zZ p w))) s.weekReg)
 have m:=qK (zZ p w) (wt s (zZ p w) (zF (zZ p w)))
 have f:=zq (wt s (zZ p w) (zF (zZ p w)))
 have c:=zq (zZ p w)
 have h:=zq (zE (vT s (zZ p w) (zF (zZ p w))) s.weekReg)
 have g:(vT s (zZ p w) (zF (zZ p w))).length<=(zZ p w).length+(zF (zZ p w)).length:=e
 have d:(wt s (zZ p w) (zF (zZ p w))).length<=(zZ p w).length+(zF (zZ p w)).length:=b
 refine ⟨?_,?_,?_⟩
 ·show (zE (vT s (zZ p w) (zF (zZ p w))) s.weekReg).length<=_;omega
 ·show (qf (wt s (zZ p w) (zF (zZ p w))) (zE (vT s (zZ p w) (zF (zZ p w))) s.weekReg)).length<=_;omega
 ·show (qf (zZ p w) (wt s (zZ p w) (zF (zZ p w)))).length<=_;omega
theorem wDa (h:List Ob) (s:Setup) (a:SA) (k:SIn h s a) (f:SFit s) (u:zz s=true) (x:AV) (l:List Seg) (w:Int) (hx:SlOf h x 5 (l.map j7)) (hl:l.length<32768):
  ACalls Tryz.prog 52 [qh s a,x,i64 w] h λr h'=>∃q:List Pt,q.Perm (xQ s l w)/\∃L,h'=h++L/\NoRes L/\New h 3 r (q.map ptC) L:=by
 have hex:∃r h',(∃q:List Pt,q.Perm (xQ s l w)/\∃L,h'=h++L/\NoRes L/\New h 3 r (q.map ptC) L)/\ResK h h':=
  ⟨.sl 3 _,_,⟨_,.refl _,[],rfl,jF,λ_ _=>⟨rfl,λ_=>rfl⟩⟩,zT⟩
 refine zf Tryz.f52 [.tmp 6] 68 rfl rfl rfl rfl rfl rfl (by decide) (hex) λB=>?_
 simp only[go_sem,k.ones]
 refine zd (c16 _ s a (k.app _) f) ?_
 rintro _ N ⟨rfl,rfl⟩
 simp only[go_sem,u,zM,Bool.not_true]
 refine zd (QJa _ s a (k.app _) f u x l (hx.app _) hl) ?_
 rintro _ N ⟨rfl,rfl⟩
 simp only[go_sem]
 have υ:=Yk s l
 have ρ:=Yl s l
 refine zd (QKa _ s a (k.app _) f u _ (vO s l) w (qx _) (by omega)) ?_
 rintro _ N ⟨rfl,rfl⟩
 simp only[go_sem]
 refine zd (qsa _ _ (xP s l) w (qx _) (by omega)) ?_
 rintro _ N ⟨rfl,rfl⟩
 simp only[go_sem]
 obtain ⟨o,ho⟩:∃o,o=yU s (vO s l) w:=⟨_,rfl⟩
 obtain ⟨b,y⟩:∃b,b=zZ (xP s l) w:=⟨_,rfl⟩
 have α:xQ s l w=Zm s o b 3:=by rw[ho,y];rfl
 have Z:=Yo s (vO s l) w
 have ξ:b.length<=(zw (xP s l)).length+1:=by rw[y];exact wE _ _ _
 have δ:=zq (xP s l)
 rw[α]
 rw[<-ho] at Z
 rw[<-ho, <-y]
 have J:∀j,(oj o j).length<=468401:=λj=>by
  unfold oj
  split<;>omega
 have d:∀j,(Zm s o b j).length<=240000+j*2000000:=λj=>by
  induction j with
  | zero=>show (vU b 0).length<=_;rw[kL];omega
  | succ j ih=>
    have N:=qK (oj o j) (qy s (oj o j))
    have C:=zq (oj o j)
    have h3:=zq (qy s (oj o j))
    have h4:=Q4 s (oj o j)
    have h5:=J j
    rw[Zm,List.length_append,List.length_append,kL,kL];omega
 have base:LIn [(h.length,Ob.box 30 (zr s a))] h (h++[.box 30 (zr s a),.box 117 [.v (.slice none 0 0)]]) (h.length+1) 117 175 3 (([]:List Pt).map ptC):=
  ⟨⟨_,rfl,zg rfl (zj rfl)⟩,by omega,(λz hz=>by rw[List.mem_singleton] at hz;subst hz;exact ⟨by show h.length≠h.length+1;omega,⟨_,_,rfl⟩,by rw[zm rfl];rfl⟩),_,by rw[zl (k:=1) rfl];rfl,.inl ⟨rfl,rfl⟩⟩
 refine zd (Zla _ h _ (h.length+1) [] b 0 base (by decide) (by omega)) ?_
 rintro _ N ⟨rfl,k1⟩
 rw[List.nil_append] at k1
 simp only[go_sem]
 obtain ⟨G,D⟩:∃G,G=AV.fn (.func 102) [] [.ptr (h.length+1) 0]:=⟨_,rfl⟩
 rw[<-D]
 refine zk (by decide) (λm T h'=>∃j:Nat,j<=3/\LIn [(h.length,Ob.box 30 (zr s a))] h h' (h.length+1) 117 175 3 ((Zm s o b j).map ptC)/\T 3= .ptr h.length 0/\T 12= .ptr (h.length+1) 0/\T 13=G/\T 43= .ag [spv o.1,spv o.2.1,spv o.2.2]/\T 44=i64 j/\m=3 - j) 3
  ⟨0,by omega,k1,by simp only[go_sem],by simp only[go_sem],by simp only[go_sem],by simp only[go_sem],by (simp only[go_sem]<;>rfl),rfl⟩ ?_
 clear k1 base
 rintro m T h' ⟨j,hj,k1,t3,c,p,K,A,rfl⟩
 simp only[go_sem,A]
 refine ways (λe=>?_) (λe=>?_)
 ·have W:(j:Int)<3:=of_decide_eq_true e
  have M:j<3:=by omega
  have i:nth [spv o.1,spv o.2.1,spv o.2.2] j=spv (oj o j):=by
   have:j=0∨j=1∨j=2:=by omega
   rcases this with rfl | rfl | rfl<;>rfl
  have F:=J j
  have haj:=d j
  have ο:=d (j+1)
  have Q:h'[h.length]? =some (.box 30 (zr s a)):=k1.keep (.head _)
  obtain ⟨O,hO⟩:∃O,O=oj o j:=⟨_,rfl⟩
  have γ:Zm s o b (j+1)=Zm s o b j++vU (qf O (qy s O)) (1+j)++vU (qy s O) (4+j):=by rw[hO];rfl
  rw[<-hO] at i F
  simp only[go_sem,t3,p,K,A,i,W,M,Q,D,Nat.mul_one,Int.toNat_natCast,Int.natCast_nonneg]
  refine zd (Zia _ s a (k1.pre.sin k) f _ O (qx _) (by omega)) ?_
  rintro _ C ⟨rfl,rfl⟩
  have hnl:=Q4 s O
  simp only[go_sem,p,D]
  refine zd (ZP _ _ _ O (qy s O) (qx _) (qx _) (by omega) (by omega)) ?_
  rintro _ C ⟨rfl,rfl⟩
  have w1:IntKind.wrap .i64 (1+(j:Int))=1+(j:Int):=zt (n:=1+(j:Int)) (by unfold Fit;omega)
  have w2:IntKind.wrap .i64 (1+(j:Int)+3)=4+(j:Int):=(zt (n:=1+(j:Int)+3) (by unfold Fit;omega)).trans (by omega)
  have σ:=qK O (qy s O)
  have κ:=zq O
  have ν:=zq (qy s O)
  simp only[go_sem,p,D,w1]
  refine zd (Zla _ h _ (h.length+1) (Zm s o b j) (qf O (qy s O)) (1+j) k1 (by omega) (by omega)) ?_
  rintro _ C ⟨rfl,k2⟩
  simp only[go_sem,p,D,w1,w2]
  refine zd (Zla _ h _ (h.length+1) _ (qy s O) (4+j) k2 (by rw[List.length_append,kL];omega) (by omega)) ?_
  rintro _ h3 ⟨rfl,k3⟩
  rw[<-γ] at k3
  simp only[go_sem,A]
  exact ⟨3 - (j+1),by omega,j+1,by omega,k3,t3,c,by rw[p,D],K,zy (by omega) rfl,rfl⟩
 ·have ψ:¬ (j:Int)<3:=of_decide_eq_false e
  have U:j=3:=by omega
  subst U
  obtain ⟨x2,g,E⟩:=k1.at_
  have ha3:=d 3
  have t:=k1.pre
  have μ:AV.cells x2=some [x2]:=E.rows.cells
  rcases E with ⟨rfl,H⟩ | ⟨id,st,u1,rfl,P⟩
  ·simp only[go_sem,c,g]
   refine zd (k4a _ _) ?_
   rintro _ C ⟨rfl,e2⟩
   rw[e2]
   simp only[go_sem,c,g]
   obtain ⟨L,Y,R⟩:=t
   exact ⟨_,rfl,.inl ⟨Zm s o b 3,.refl _,L,Y,R,by rw[H];exact λC _=>⟨rfl,λh=>absurd rfl h⟩⟩⟩
  ·simp only[go_sem,c,g]
   refine zd (wCa _ id st _ P (by omega)) ?_
   rintro _ C ⟨rfl,q,q1,q2,rfl⟩
   have V:id≠h.length+1:=λq=>by rw[q,g] at P;cases P
   have S:(h'.set id (.row 175 3 (q.map ptC) st))[h.length+1]? =some (.box 117 [.tl id st]):=by rw[List.getElem?_set_ne V];exact g
   simp only[go_sem,c,S]
   have X:Pre h (h'.set id (.row 175 3 (q.map ptC) st)):=t.set u1 rfl
   have I:OwnS h (h'.set id (.row 175 3 (q.map ptC) st)) 175 3 (.tl id st) (q.map ptC):= .inr ⟨id,st,u1,rfl,List.getElem?_set_self (List.getElem?_eq_some_iff.1 P).1⟩
   obtain ⟨L,Y,R⟩:=X
   rw[Y] at I⊢
   exact ⟨_,rfl,.inl ⟨q,q1,L,rfl,R,I.new (Nat.le_refl _)⟩⟩
theorem Zma (h:List Ob) (s:Setup) (a:SA) (k:SIn h s a) (f:SFit s) (b:zz s=true) (x:AV) (l:List Seg) (w:Int) (c:SlOf h x 5 (l.map j7)) (d:l.length<32768):
  ACalls Tryz.prog 52 [qh s a,x,i64 w] h λr h'=>(∃q:List Pt,q.Perm (xQ s l w)/\r= .sl 3 (q.map ptC))/\h'=h:=
 Yn (by decide) (λq=>yoa q) (wDa h s a k f b x l w c d)
end Go.Proofs.YtfmldcilgbbimaaGreat.Ax
namespace Go.Proofs.YtfmldcilgbbimaaGreat.Ax
open Go Go.Proofs
set_option maxRecDepth 100000
def kz (f:Nat->Int):List AV:=[i64 (f 0),i64 (f 1),i64 (f 2),i64 (f 3),i64 (f 4),i64 (f 5),i64 (f 6)]
theorem Yp (f:Nat->Int) {k:Nat} (a:k<7) (v:Int):lay (kz f) k [i64 v]=some (kz λj=>if j=k then v else f j):=by
 have:k=0∨k=1∨k=2∨k=3∨k=4∨k=5∨k=6:=by omega
 rcases this with rfl | rfl | rfl | rfl | rfl | rfl | rfl<;>rfl
theorem k5a (f:Nat->Int) {k:Nat} (a:k<7):nth (kz f) k=i64 (f k):=by
 have:k=0∨k=1∨k=2∨k=3∨k=4∨k=5∨k=6:=by omega
 rcases this with rfl | rfl | rfl | rfl | rfl | rfl | rfl<;>rfl
theorem Ka (f:Nat->Int):cut (kz f) 0 7=some (kz f):=rfl
theorem Yq (f g:Nat->Int):lay (kz f) 0 (kz g)=some (kz g):=rfl
theorem k6a (f:Nat->Int):(kz f).all AV.one=true:=rfl
theorem k7a (f:Nat->Int):(kz f).length=7:=rfl
attribute [go_sem] Ka Yq k6a k7a
def ptS (p:Pt):Spn:=⟨p.from_,p.to_⟩
def xU (q:List Pt) (k:Int):List Spn:=(q.filter λp=>p.kind==k).map ptS
theorem zLa (q:List Pt) (k:Int) (p:Pt):xU (q++[p]) k=if p.kind==k then xU q k++[ptS p] else xU q k:=by
 unfold xU
 rw[List.filter_append,List.map_append]
 cases h:p.kind==k<;>simp[h]
theorem Ve (q:List Pt) (k:Int):(xU q k).length<=q.length:=by
 unfold xU
 rw[List.length_map]
 exact List.length_filter_le _ q
def vV (q:List Pt) (k:Int):Int:=qq (zw (xU q k))
theorem Zna {l:List Pt} {i:Nat} (h:i<l.length):(l.map ptC)[i]? =some (ptC l[i]):=by rw[List.getElem?_map,List.getElem?_eq_getElem h];rfl
theorem zMa {q:List Pt} {n:Nat} (h:n<q.length) (k:Int):xU (q.take (n+1)) k=if (q[n]).kind==k then xU (q.take n) k++[ptS q[n]] else xU (q.take n) k:=by
 rw[show q.take (n+1)=q.take n++[q[n]] from (List.take_append_getElem h).symm,zLa]
theorem Zj {h0 h':List Ob} {i id:Nat} {ty e:Nat} {rows:List (List AV)} {st:Nat} {o:Ob} {t:TypeId} {c:List AV} (b:h'[i]? =some (.box t c)) (a:h'[id]? =some (.row ty e rows st)):(h'.set id o)[i]? =some (.box t c):=by
 have:id≠i:=λq=>by rw[q,b] at a;cases a
 rw[List.getElem?_set_ne this];exact b
set_option maxHeartbeats 1000000 in
theorem wEa (h:List Ob) (x:AV) (q:List Pt) (O:SlOf h x 3 (q.map ptC)) (hl:q.length<1048576):
  ACalls Tryz.prog 51 [x] h λr h'=>r= .ag (kz λj=>vV q j)/\h'=h:=by
 refine zf Tryz.f51 [.cell 2 42] 35 rfl rfl rfl rfl rfl rfl (by decide) (⟨_,_,⟨rfl,rfl⟩,.refl⟩) λB=>?_
 simp only[go_sem]
 refine zk (by decide) (λm T h'=>∃k:Nat,k<=7/\Pre h h'/\h'[h.length]? =some (.box 42 (kz λj=>if j<k then vV q j else 0))/\T 0=x/\T 2= .ptr h.length 0/\T 7=i64 k/\m=7 - k) 7
  ⟨0,by omega,⟨_,rfl,zj rfl⟩,by rw[zm rfl];rfl,by simp only[go_sem],by simp only[go_sem],by (simp only[go_sem]<;>rfl),rfl⟩ ?_
 rintro m T h' ⟨k,Y,a,c,t0,t2,p,rfl⟩
 simp only[go_sem,p]
 refine ways (λe=>?_) (λe=>?_)
 ·have K:(k:Int)<7:=of_decide_eq_true e
  have t:k<7:=by omega
  have l:=(a.sl O).rows
  simp only[go_sem,t0,p,l,List.length_map]
  refine zk (by decide) (λm T s=>∃n:Nat,n<=q.length/\Pre h s/\s[h.length]? =some (.box 42 (kz λj=>if j<k then vV q j else 0))/\OwnS h s 134 2 (T 4) ((xU (q.take n) k).map zD)/\T 0=x/\T 2= .ptr h.length 0/\T 3=i64 k/\T 7=i64 k/\T 10=x/\T 11=i64 q.length/\T 12=i64 n/\m=q.length - n) q.length
   ⟨0,by omega,a,c,.inl ⟨by simp only[go_sem],rfl⟩,by simp only[go_sem,t0],by simp only[go_sem,t2],by (simp only[go_sem]<;>rfl),by simp only[go_sem,p],by simp only[go_sem,t0],by (simp only[go_sem]<;>rfl),by (simp only[go_sem]<;>rfl),rfl⟩ ?_
  clear t0 t2 p l c a
  rintro m T s ⟨n,Z,a,c,A,t0,t2,t3,p,t10,o,f,rfl⟩
  simp only[go_sem,o,f]
  refine ways (λD=>?_) (λD=>?_)
  ·have d:=dlt D
   have z:=a.sl O
   have F:=z.at (i:=n) (by simpa using d)
   have l:=z.rows
   have g:=Zna d
   have v:(n:Int)<q.length:=by omega
   have b:=zMa d k
   obtain ⟨y,V⟩:∃y,y=q[n]:=⟨_,rfl⟩
   rw[<-V] at g b
   have hA:List.length (ptC y)=3:=rfl
   have S:ptC y=[i64 y.from_,i64 y.to_,i64 y.kind]:=rfl
   rw[S] at g
   have fin:n+1<=q.length:=by omega
   simp only[go_sem,t3,t10,f,F,l,g,v,List.length_map,Int.toNat_natCast,Int.natCast_nonneg]
   refine ways (λw=>?_) (λw=>?_)
   ·rw[w] at b
    simp only[if_true] at b
    rcases A with ⟨t4,N⟩ | ⟨id,st,Q,t4,U⟩
    ·simp only[go_sem,t4,f]
     refine ⟨q.length - (n+1),by omega,n+1,fin,a.app (zg rfl (zg rfl (zj rfl))),zb c,.inr ⟨_,_,by have:=a.len;omega,rfl,?_⟩,t0,t2,t3,p,t10,o,zy (by omega) rfl,rfl⟩
     rw[b,List.map_append,N,zl rfl]
     rfl
    ·have C:(((xU (q.take n) k).map zD).length+1)*17<=140737488355328:=by
      have:=Ve (q.take n) k
      rw[List.length_take] at this
      rw[List.length_map];omega
     have G:∀M,(s++M)[id]? =some (.row 134 2 ((xU (q.take n) k).map zD) st):=λM=>zb U
     simp only[go_sem,t4,f,G,C]
     refine ⟨q.length - (n+1),by omega,n+1,fin,(a.app (zg rfl (zj rfl))).set Q rfl,Zj (h0:=h) (zb c) (G _),.inr ⟨id,st+1,Q,rfl,?_⟩,t0,t2,t3,p,t10,o,zy (by omega) rfl,rfl⟩
     rw[b,List.map_append]
     exact zh (G _)
   ·have w:(y.kind==(k:Int))=false:=by simpa using w
    rw[w] at b
    simp only[Bool.false_eq_true,if_false] at b
    simp only[go_sem,f]
    exact ⟨q.length - (n+1),by omega,n+1,fin,a.app (zj rfl),zb c,by rw[b];exact A.app _,t0,t2,t3,p,t10,o,zy (by omega) rfl,rfl⟩
  ·have J:=jd D
   have I:n=q.length:=by omega
   subst I
   rw[List.take_length] at A
   have v:=Ve q k
   simp only[go_sem,t3]
   refine zd (qra _ (T 4) (xU q k) A.rows (by omega)) ?_
   rintro _ h3 ⟨rfl,R⟩
   rw[R]
   have u:=Yp (λj=>if j<k then vV q j else 0) t (vV q k)
   have E:(λj:Nat=>if j=k then vV q k else if j<k then vV q j else 0)=λj:Nat=>if j<k+1 then vV q j else 0:=by
    funext j
    by_cases P:j=k
    ·subst P;rw[if_pos rfl,if_pos (by omega)]
    ·rw[if_neg P]
     by_cases s:j<k
     ·rw[if_pos s,if_pos (by omega)]
     ·rw[if_neg s,if_neg (by omega)]
   rw[E] at u
   rw[show qq (zw (xU q k))=vV q k from rfl]
   simp only[go_sem,t2,t3,p,c,u,K,t,Nat.mul_one,Nat.zero_add,Int.toNat_natCast,Int.natCast_nonneg]
   exact ⟨7 - (k+1),by omega,k+1,by omega,a.set (Nat.le_refl _) rfl,zh c,t0,zy (by omega) rfl,rfl⟩
 ·have J:¬ (k:Int)<7:=of_decide_eq_false e
  have H:k=7:=by omega
  subst H
  have c:h'[h.length]? =some (.box 42 (kz λj=>vV q j)):=c
  simp only[go_sem,t2,c,Ka,Yq]
  rw[zW c]
  obtain ⟨L,W,X⟩:=a
  refine ⟨.ag (kz λj=>vV q j),by simp only[go_sem,t2,c,Ka],.inr ⟨h,L,W,rfl,rfl,.refl,rfl,rfl⟩⟩
set_option maxRecDepth 100000
def yf (n:Int):Int:=min (max n 0) 604800
theorem Yr (n:Int):qX Tryz.prog 121 [i64 n] (i64 (yf n)):=λh=>by
 refine zf Tryz.f121 [.tmp 2] 6 rfl rfl rfl rfl rfl rfl (by decide) (⟨_,_,⟨rfl,rfl⟩,.refl⟩) λB=>?_
 simp only[go_sem]
 (first | refine zc ?_ | refine ze ?_ (by rfl))<;>(simp only[go_sem,yf,wU,wV]<;>try rfl)
def Kv (n d:Int):Int:=(Qq n d).1
theorem ypa (n d:Int):qX Tryz.prog 122 [i64 n,i64 d] (i64 (Kv n d)):=λh=>by
 refine zf Tryz.f122 [.tmp 4] 14 rfl rfl rfl rfl rfl rfl (by decide) (⟨_,_,⟨rfl,rfl⟩,.refl⟩) λB=>?_
 simp only[go_sem]
 refine zd (c70 n d _) ?_
 rintro _ a ⟨rfl,rfl⟩
 simp only[go_sem,QP]
 (first | refine zc ?_ | refine ze ?_ (by rfl))<;>(simp only[go_sem,Kv]<;>try rfl)
def ZS (r k:Int):Int:=wr (r*wr (k+1))
def vP (s:Setup) (r k:Int):Int:=if k>3 then wr (ZS r (k - 3)+wr (2*s.diff)) else ZS r k
theorem qDa (h:List Ob) (s:Setup) (a:SA) (k:SIn h s a) (r n:Int) (c:n<=3):
  ACalls Tryz.prog 123 [qh s a,i64 r,i64 n] h λb h'=>b=i64 (ZS r n)/\h'=h:=by
 have q:decide (n>3)=false:=by rw[decide_eq_false_iff_not];omega
 refine zf Tryz.f123 [.tmp 6] 22 rfl rfl rfl rfl rfl rfl (by decide) (⟨_,_,⟨rfl,rfl⟩,.refl⟩) λB=>?_
 simp only[go_sem,k.ones,q]
 (first | refine zc ?_ | refine ze ?_ (by rfl))<;>(simp only[go_sem,ZS]<;>try rfl)
theorem Zoa (h:List Ob) (s:Setup) (a:SA) (k:SIn h s a) (r n:Int) (e:n<=6):
  ACalls Tryz.prog 123 [qh s a,i64 r,i64 n] h λc h'=>c=i64 (vP s r n)/\h'=h:=by
 by_cases b:n>3
 ·have q:decide (n>3)=true:=decide_eq_true b
  have w:IntKind.wrap .i64 (n - 3)=n - 3:=zt (n:=n - 3) (by unfold Fit;omega)
  refine zf Tryz.f123 [.tmp 6] 22 rfl rfl rfl rfl rfl rfl (by decide) (⟨_,_,⟨rfl,rfl⟩,.refl⟩) λB=>?_
  simp only[go_sem,k.ones,q]
  refine zp rfl [] 0 [(1,0,[]),(2,0,[]),(3,0,[]),(5,0,[]),(0,0,[]),(6,0,[]),(7,0,[]),(4,0,[6]),(8,0,[]),(9,0,[])] rfl (by decide) (by decide) ?_
  simp only[go_sem,k.ones,w]
  refine zd (qDa _ s a (k.app _) r (n - 3) (by omega)) ?_
  rintro _ d ⟨rfl,rfl⟩
  simp only[go_sem,k.ones,w]
  (first | refine zc ?_ | refine ze ?_ (by rfl))<;>(simp only[go_sem,vP,b]<;>try rfl)
 ·refine (qDa h s a k r n (by omega)).mono ?_
  rintro c h' ⟨rfl,rfl⟩
  exact ⟨by unfold vP;rw[if_neg b],rfl⟩
def upI (n d:Int):Int × Int:=if d<=0 then (0,20) else if (ji n d).2>0 then (wr ((ji n d).1+1),0) else ((ji n d).1,0)
theorem cUp (n d:Int):qX Tryz.prog 125 [i64 n,i64 d] (QP (upI n d)):=λh=>by
 refine zf Tryz.f125 [.tmp 4,.tmp 5] 21 rfl rfl rfl rfl rfl rfl (by decide) (⟨_,_,⟨rfl,rfl⟩,.refl⟩) λB=>?_
 simp only[go_sem]
 refine ways (λe=>?_) (λe=>?_)
 ·have a:d<=0:=of_decide_eq_true e
  simp only[go_sem]
  (first | refine zc ?_ | refine ze ?_ (by rfl))<;>(simp only[go_sem,upI,a,QP]<;>try rfl)
 ·have a:¬ d<=0:=of_decide_eq_false e
  simp only[go_sem]
  refine zd (c97 n d (by omega) _) ?_
  rintro _ f ⟨rfl,rfl⟩
  simp only[go_sem,QP]
  refine ways (λc=>?_) (λc=>?_)
  ·have b:(ji n d).2>0:=of_decide_eq_true c
   simp only[go_sem]
   (first | refine zc ?_ | refine ze ?_ (by rfl))<;>(simp only[go_sem,upI,a,b,QP]<;>try rfl)
  ·have b:¬ (ji n d).2>0:=of_decide_eq_false c
   simp only[go_sem]
   (first | refine zc ?_ | refine ze ?_ (by rfl))<;>(simp only[go_sem,upI,a,b,QP]<;>try rfl)
def ZT:Int->List Int->Int × Int
 | a,[]=>(a,0)
 | a,x::r=>if (decide (x>0)==decide (wr (a+x)>a)) || x==0 then ZT (wr (a+x)) r else (0,10)
theorem JMa (h:List Ob) (x:AV) (l:List Int) (n:SlOf h x 1 (l.map zH)) (u:l.length<1048576):
  ACalls Tryz.prog 124 [x] h λr h'=>r=QP (ZT 0 l)/\h'=h:=by
 refine zf Tryz.f124 [.tmp 2,.tmp 3] 30 rfl rfl rfl rfl rfl rfl (by decide) (⟨_,_,⟨rfl,rfl⟩,.refl⟩) λB=>?_
 simp only[go_sem]
 refine XP (by decide) ?_
 simp only[go_sem,n.rows,List.length_map]
 refine zk (by decide) (λm T h'=>∃(i:Nat) (k:Int),i<=l.length/\h'=h/\ZT 0 l=ZT k (l.drop i)/\T 4=i64 k/\T 8=x/\T 9=i64 l.length/\T 10=i64 i/\m=l.length - i) l.length
  ⟨0,0,by omega,rfl,rfl,by (simp only[go_sem]<;>rfl),by simp only[go_sem],by (simp only[go_sem]<;>rfl),by (simp only[go_sem]<;>rfl),rfl⟩ ?_
 rintro m T h' ⟨i,k,t,rfl,a,t4,t8,t9,t10,rfl⟩
 simp only[go_sem,t9,t10]
 refine ways (λe=>?_) (λe=>?_)
 ·have d:=dlt e
  have c:=Qz d
  have p:=n.at (i:=i) (by rw[List.length_map];exact d)
  have j:=n.rows
  have o:(i:Int)<l.length:=by omega
  rw[List.drop_eq_getElem_cons d,ZT] at a
  obtain ⟨z,s⟩:∃z,z=l[i]:=⟨_,rfl⟩
  rw[<-s] at c a
  simp only[go_sem,t4,t8,t10,p,j,c,o,List.length_map,Int.toNat_natCast,Int.natCast_nonneg]
  obtain ⟨b,f⟩:∃b:Bool,b=(decide (z>0)==decide (wr (k+z)>k)):=⟨_,rfl⟩
  rw[<-f] at a
  rw[show (decide (z>0)==decide (IntKind.i64.wrap (k+z)>k))=b from f.symm]
  cases b
  ·cases h0:z==0
   ·rw[h0] at a
    simp only[Bool.or_self,Bool.false_eq_true,if_false] at a
    simp only[go_sem,h0,zM, <-f]
    (first | refine zc ?_ | refine ze ?_ (by rfl))<;>(simp only[go_sem,a,QP]<;>try rfl)
   ·rw[h0] at a
    simp only[Bool.or_true,if_true] at a
    simp only[go_sem,h0,zM, <-f,t10]
    exact ⟨l.length - (i+1),by omega,i+1,_,by omega,a,rfl,t8,t9,zy (by omega) rfl,rfl⟩
  ·simp only[Bool.true_or,if_true] at a
   simp only[go_sem,zM, <-f,t10]
   exact ⟨l.length - (i+1),by omega,i+1,_,by omega,a,rfl,t8,t9,zy (by omega) rfl,rfl⟩
 ·have q:=jd e
  have g:i=l.length:=by omega
  subst g
  rw[List.drop_length,ZT] at a
  simp only[go_sem,t4]
  (first | refine zc ?_ | refine ze ?_ (by rfl))<;>(simp only[go_sem,a,QP]<;>try rfl)
end Go.Proofs.YtfmldcilgbbimaaGreat.Ax
namespace Go.Proofs.YtfmldcilgbbimaaGreat.Ax
open Go Go.Proofs Go.RowKit Go.Lib
set_option maxRecDepth 100000
theorem qEa:∃i,Tryz.prog.info? 3=some i/\i.zero=some (.int .i64 0)/\i.size=1/\i.bytes=8:=by
 have h:(Tryz.prog.info? 3).map (λi=>(i.zero,i.size,i.bytes))=some (some (.int .i64 0),1,8):=by kernel_rfl
 cases a:Tryz.prog.info? 3 with
 | none=>rw[a] at h;cases h
 | some i=>
   rw[a] at h
   injection h with h
   injection h with h1 h2
   injection h2 with h2 h3
   exact ⟨i,rfl,h1,h2,h3⟩
theorem wFa {N:Nat} {B:Bs} {w:World} {g:Gh} {h:List Ob} {a:Act} {T b:Env} (r:Rel N B w g h a T) (c:∀i,b i=T i∨b i= .bad):Rel N B w g h a b:=
 ⟨r.ok,r.hB,λi=>by
  rcases c i with e | e
  ·rw[e];exact r.t i
  ·rw[e];trivial,r.d,r.n⟩
theorem qFa {P:Program} {N:Nat} {B:Bs} {φ:Nat->Ob} {ops:Array Oper} {o:Oper} {l:List Oper} {T:Env} {h h':List Ob} {x:AV} {w:World} {g:Gh} {a:Act} {Q:Exit->Act->World->Prop} (k:Upto φ h.length) (p:kY N o=true) (j:o.guard=none) (q:kA T o.op=none)
  (d:zn P T h o.op=some (x,h')) (r:Rel N B w g (fill φ h) a T) (next:∀g' w' c,ResK h h'->Rel N B w' g' (fill φ h') c (zL T o.dst x)->Good B.b w g (fill φ h) w' g' (fill φ h')->wpListIn Fence.wide 0 P ops Q l c w'):wpListIn Fence.wide 0 P ops Q (o::l) a w:=by
 unfold wpListIn
 rw[if_pos (by simp[Region.wanted,j])]
 refine Xb (K:=λf e=>f=zL T o.dst x/\e=h') 0 k p ?_ r ?_
 ·unfold J9
  rw[q]
  unfold xS
  rw[d]
  exact ⟨rfl,rfl⟩
 ·rintro f e w' c ⟨rfl,rfl⟩ ⟨g',n,i,m⟩
  exact next g' w' c n i m
theorem Ys (w:World) (b:Nat):(Instr.sliceAt 42 (.pointer (some ⟨b,0,none⟩)) none none none).run Tryz.prog w= .ok (.slice (some ⟨b,0,none⟩) 7 7) w:=by
 obtain ⟨i,a,f,e,d⟩:=qEa
 have c:Tryz.prog.underlying 42=some (.array 7 3):=Tryz.underlying42
 simp[Instr.sliceAt,Instr.sureAddr,run_underlying c,Instr.sliceBounds,sizeOf,typeInfo,a,Addr.add_lit]
set_option maxHeartbeats 1000000 in
theorem wGa {N:Nat} {B:Bs} {T:Env} {h:List Ob} {Q:jl} {id i p q d z m d3:Nat} {ops:Array Oper} {O o1 o2 L:Oper} {rest:List Oper} (f:Nat->Int) (v:Int) (R:ops.toList=O::o1::o2::L::rest)
  (hd:ops.toList.all (kY N)=true) (e0:O.op= .slice 42 (.tmp p) none none none) (s0:O.dst=some d) (g0:O.guard=none)
  (e1:o1.op= .move (.tmp q)) (s1:o1.dst=some z) (g1:o1.guard=none)
  (e2:o2.op= .buildSlice 27 1 #[(0,.tmp z)]) (s2:o2.dst=some m) (g2:o2.guard=none)
  (e3:L.op= .call { callee:= .builtin .append,args:= #[.tmp d,.tmp m],argTypes:= #[27,27] }) (s3:L.dst=some d3) (g3:L.guard=none)
  (n01:z≠d) (n02:m≠d) (nq:q≠d)
  (hp:T p= .ptr i 0) (hb:h[i]? =some (.box 42 (kz f))) (hq:T q=i64 v)
  (k:wpR Tryz.prog ops (Q .normal) rest (upd (upd (upd (upd T d .bad) z (i64 v)) m (.tl h.length 0)) d3 (.tl (h.length+1) 0)) (h++[.row 3 1 [[i64 v]] 0]++[.row 3 1 ([f 0,f 1,f 2,f 3,f 4,f 5,f 6,v].map zH) 0])):
  AWp Tryz.prog N B (.region id ops false) Q T h:=λφ hu w g a r=>by
 refine (wpIn_wide (n:=0)).1 (wpIn_region ?_)
 rw[List.range_eq_range', <-Array.length_toList,wpOpsIn_eq_wpListIn ops.toList 0 (by simp),R]
 rw[R] at hd
 simp only[List.all_cons,Bool.and_eq_true] at hd
 obtain ⟨hd0,hd1,hd2,hd3,hdr⟩:=hd
 have o:=r.t p
 rw[hp] at o
 obtain ⟨α,o⟩:=o
 have o:a.eval (.tmp p)= .pointer (some ⟨g.β i,0,none⟩):=o
 have c0:O.wpIn Fence.wide 0 Tryz.prog a w (wpListIn Fence.wide 0 Tryz.prog ops (λe S w'=>∃s h',Q e s h'/\Aft N B φ w g h s h' S w') (o1::o2::L::rest)) (λe S w'=>∃s h',Q e s h'/\Aft N B φ w g h s h' S w'):=by
  refine yZ 0 ?_
  unfold Oper.wp
  have κ:(execOp a.eval O).run Tryz.prog w= .ok (.value (.slice (some ⟨g.β i,0,none⟩) 7 7)) w:=by
   obtain ⟨dst,op,type,pos,after,guard⟩:=O
   simp only at e0
   subst e0
   have:=Ys w (g.β i)
   simp only[execOp,o]
   simp[this]
  rw[κ]
  show wpListIn Fence.wide 0 Tryz.prog ops _ (o1::o2::L::rest) (a.put O.dst (.slice (some ⟨g.β i,0,none⟩) 7 7)) w
  have r1:=vg (x:= .v (.slice (some ⟨g.β i,0,none⟩) 7 7)) (v:= .slice (some ⟨g.β i,0,none⟩) 7 7) r (Good.refl r.ok r.hB) rfl hd0
  rw[s0] at r1⊢
  obtain ⟨M,σ⟩:∃M,M=Value.slice (some ⟨g.β i,0,none⟩) 7 7:=⟨_,rfl⟩
  rw[<-σ] at r1⊢
  obtain ⟨Y,J⟩:∃Y,Y=zL T (some d) (.v M):=⟨_,rfl⟩
  rw[<-J] at r1
  have t1q:Y q=i64 v:=by rw[J];show upd T d _ q=_;unfold upd;rw[if_neg nq];exact hq
  have t1d:Y d= .v M:=by rw[J];show upd T d _ d=_;unfold upd;rw[if_pos rfl]
  refine qFa (x:=i64 v) (h':=h) hu hd1 g1 (by rw[e1];rfl) (by rw[e1];simp only[zn,ev,t1q]) r1 ?_
  intro g2' w2 a2 q1 r2 k2
  rw[s1] at r2
  obtain ⟨X,I⟩:∃X,X=zL Y (some z) (i64 v):=⟨_,rfl⟩
  rw[<-I] at r2
  have t2d:X d= .v M:=by rw[I];show upd Y z _ d=_;unfold upd;rw[if_neg (Ne.symm n01)];exact t1d
  have t2v:X z=i64 v:=by rw[I];show upd Y z _ z=_;unfold upd;rw[if_pos rfl]
  refine qFa (x:= .tl h.length 0) (h':=h++[.row 3 1 [[i64 v]] 0]) hu hd2 g2 (by rw[e2];rfl) (by rw[e2];simp only[zn,qg,go_sem,evs,ev,t2v]) r2 ?_
  intro F c a3 q2 D k3
  rw[s2] at D
  obtain ⟨T3,H⟩:∃T3,T3=zL X (some m) (.tl h.length 0):=⟨_,rfl⟩
  rw[<-H] at D
  have t3d:T3 d= .v M:=by rw[H];show upd X m _ d=_;unfold upd;rw[if_neg (Ne.symm n02)];exact t2d
  have t3v:T3 m= .tl h.length 0:=by rw[H];show upd X m _ m=_;unfold upd;rw[if_pos rfl]
  obtain ⟨E,K⟩:∃E,E=h++[.row 3 1 [[i64 v]] 0]:=⟨_,rfl⟩
  rw[<-K] at D k3 q2 k
  have hl3:E.length=h.length+1:=by rw[K];simp
  have μ:Upto φ E.length:=hu.mono (by omega)
  have hb3:E[i]? =some (.box 42 (kz f)):=by rw[K];exact zb hb
  have hr3:E[h.length]? =some (.row 3 1 [[i64 v]] 0):=by rw[K,zm rfl];rfl
  have kk:=k2.trans k3
  have hβ:F.β i=g.β i:=kk.le.β i α
  have w0:a3.eval (.tmp d)=M:=by
   have:=D.t d
   rw[t3d] at this
   exact this
  have ξ:=D.t m
  rw[t3v] at ξ
  obtain ⟨_,_,ο⟩:=ξ
  have U:=zK (φ:=φ) hr3 rfl
  have e4:a3.eval (.tmp m)=F.cur h.length:=(ο 0 (by simp[ctx,U,Ob.tok])).2 rfl
  obtain ⟨_,_,cells,c2,c3⟩:=D.ok.ok _ _ U
  obtain ⟨u,rr,z1,z2,z3⟩:=c3
  have z2:u= .int .i64 v:=z2
  have z3:rr=[]:=z3
  subst z1 z2 z3
  have W:=(JY D.ok (zK (φ:=φ) hb3 rfl)).vals
  obtain ⟨vs,v1,v2⟩:=W
  rw[hβ] at v2
  have C:vs.length=7:=by rw[<-xr v1];rfl
  obtain ⟨ii,hi,hz,hs,hby⟩:=qEa
  rcases c2.2 with ⟨_,e5⟩ | ⟨gg,cap,cur,e5,e6,e7,e8,e9,e10,e11⟩
  ·cases e5
  ·have e5:F.cur h.length= .slice (some ⟨gg,0,none⟩) 1 cap:=e5
   have A:=run_append_grow (P:=Tryz.prog) c 27 L.type 3 ii (.int .i64 0) Tryz.underlying27 hi hz ⟨g.β i,0,none⟩ 7 7 vs (by rw[hs,C]) v2 ⟨gg,0,none⟩ 1 cap [.int .i64 v] (by rw[hs];rfl) (λj x hx=>by
     have hj:j=0:=by
      cases j with
      | zero=>rfl
      | succ j=>simp at hx
     subst hj
     have hx:x= .int .i64 v:=by simpa using hx.symm
     subst hx
     have:cur[0]? =some (.int .i64 v):=by
      have:=congrArg (λl:List Value=>l[0]?) e11
      simpa [List.getElem?_take] using this
     simp[World.cell?,e7,Addr.add_lit,this]) (by omega) (by omega) (growslice_fits (by omega) (by rw[hby];omega))
   have ν:=grownCap_ge c 8 7 3
   have τ:=grownCap_le_maxLen c 8 7 3 (by unfold maxLen;omega)
   obtain ⟨G,hG⟩:∃G,G=grownCap c (7+1) 7 3:=⟨_,rfl⟩
   have hG8:grownCap c 8 7 3=G:=hG.symm
   rw[hG8] at ν τ
   rw[<-hG] at A
   obtain ⟨V,Z⟩:∃V:Array Value,V=vs.toArray++ #[Value.int .i64 v]++Builtin.zeroCells (Value.int .i64 0).cells (G - (7+1)):=⟨_,rfl⟩
   have θ:(vs.toArray++[Value.int .i64 v].toArray++Builtin.zeroCells (Value.int .i64 0).cells (G - (7+1)))=V:=Z.symm
   rw[θ] at A
   have hsz:V.size=G*1:=by
    rw[Z]
    simp only[Array.size_append,K8,List.size_toArray,C]
    simp[Value.cells];omega
   have htk:V.toList.take (8*1)=vs++[.int .i64 v]:=by
    rw[Z]
    simp only[Array.toList_append,List.toList_toArray]
    rw[List.take_append_of_le_length (by simp[C])]
    rw[List.take_of_length_le (by simp[C])]
   have ι:ARs (ctx c F (fill φ E)) ([f 0,f 1,f 2,f 3,f 4,f 5,f 6,v].map zH).flatten (vs++[.int .i64 v]):=by
    have:=xX v1 (show ARs (ctx c F (fill φ E)) [i64 v] [.int .i64 v] from ⟨_,_,rfl,rfl,rfl⟩)
    exact this
   have ζ:Below c.heap.size c (c.drew.alloc (.cells V 3)):=(show Below c.heap.size c c.drew from ⟨rfl,rfl,rfl,Nat.le_refl _,λ_ _=>rfl⟩).alloc (Nat.le_refl _) _
   obtain ⟨m1,m2⟩:=yz D.ok D.hB (ty:=3) (e:=1) (by decide) (xs:=[f 0,f 1,f 2,f 3,f 4,f 5,f 6,v].map zH) (λx hx=>by
     obtain ⟨y,_,rfl⟩:=List.mem_map.1 hx
     rfl) (v':= .slice (some ⟨c.heap.size,0,none⟩) 8 G) 0 ζ
    ⟨by rw[List.length_append,C];rfl,.inr ⟨c.heap.size,G,V,rfl,D.hB,heap_alloc_new c.drew _,ν,τ,hsz,htk⟩⟩ ι (λb hb=>by injection hb with hb;subst hb;exact Nat.le_refl _)
   have hfl:fill φ (E++[.row 3 1 ([f 0,f 1,f 2,f 3,f 4,f 5,f 6,v].map zH) 0])=fill φ E++[.row 3 1 ([f 0,f 1,f 2,f 3,f 4,f 5,f 6,v].map zH) 0]:=q8 μ
   rw[qc] at m1 m2
   rw[<-hfl] at m1 m2
   have c3:L.wpIn Fence.wide 0 Tryz.prog a3 c (wpListIn Fence.wide 0 Tryz.prog ops (λe S w'=>∃s h',Q e s h'/\Aft N B φ w g h s h' S w') rest) (λe S w'=>∃s h',Q e s h'/\Aft N B φ w g h s h' S w'):=by
    refine yZ 0 (wp_append_run c (.tmp d) (.tmp m) 27 27 e3 M (.slice (some ⟨gg,0,none⟩) 1 cap) w0 (by rw[e4,e5]) (.slice (some ⟨c.heap.size,0,none⟩) 8 G) (c.drew.alloc (.cells V 3)) (by rw[σ];exact A) ?_)
    have r4:=vg (x:= .tl E.length 0) (v:= .slice (some ⟨c.heap.size,0,none⟩) 8 G) D m1 m2 hd3
    rw[s3] at r4⊢
    have r5:Rel N B _ _ _ _ (upd (upd (upd (upd T d .bad) z (i64 v)) m (.tl h.length 0)) d3 (.tl (h.length+1) 0)):=wFa r4 (λj=>by
     rw[H,I,J,hl3]
     simp only[zL,upd]
     by_cases j3:j=d3
     ·rw[if_pos j3,if_pos j3];exact .inl rfl
     ·rw[if_neg j3,if_neg j3]
      by_cases j2:j=m
      ·rw[if_pos j2,if_pos j2];exact .inl rfl
      ·rw[if_neg j2,if_neg j2]
       by_cases j1:j=z
       ·rw[if_pos j1,if_pos j1];exact .inl rfl
       ·rw[if_neg j1,if_neg j1]
        by_cases j0:j=d
        ·rw[if_pos j0];exact .inr rfl
        ·rw[if_neg j0,if_neg j0];exact .inl rfl)
    refine wv rest hdr (μ.mono (by rw[List.length_append];omega)) (qja _ k) r5 ?_
    intro s h' w' S q hq4
    refine ⟨s,h',q,hq4.trans ?_ ((k2.trans k3).trans m1)⟩
    exact (q1.trans q2).trans zT
   unfold wpListIn
   rw[if_pos (by simp[Region.wanted,g3])]
   exact c3
 unfold wpListIn
 rw[if_pos (by simp[Region.wanted,g0])]
 exact c0
end Go.Proofs.YtfmldcilgbbimaaGreat.Ax
namespace Go.Proofs.YtfmldcilgbbimaaGreat.Ax
open Go Go.Proofs
set_option maxRecDepth 100000
section
variable {P:Program} {N:Nat} {B:Bs} {Q:jl} {T:Env} {h:List Ob}
theorem vd {c:Code} (k:AWp P N B c Q T h): @we P N B ⟨(c,Q)⟩ T h:=k
theorem qC {c c':Code} (a:okC N c=true) (k:wpC P N B c (kH (λT h=> @we P N B ⟨(c',Q)⟩ T h) Q) T h):AWp P N B (.seq c c') Q T h:=JO (qr _ a k)
theorem k8a {c c':Code} (k:AWp P N B c (kH (λT h=> @we P N B ⟨(c',Q)⟩ T h) Q) T h):AWp P N B (.seq c c') Q T h:=JO k
theorem JW {c c':Code} (S:Env->List Ob->Prop) (a:okC N c=true) (k1:wpC P N B c (kH S Q) T h) (k2:∀T h,S T h->AWp P N B c' Q T h):AWp P N B (.seq c c') Q T h:=
 JO ((qr _ a k1).mono λe T h q=>by cases e<;>first | exact k2 _ _ q | exact q)
end
def yV (s:Setup) (w:Nat):Int:=s.rates.getD w 0
def jK (s:Setup) (w:Nat) (t:Nat->Int) (j:Nat):Int:=if j=0 then 0 else Kv (wr (yf (t j)*vP s (yV s w) j)) 7200
def yh (t:Nat->Int):Nat->Int
 | 0=>0
 | j+1=>if j=0 then 0 else wr (yh t j+yf (t j))
def Jv (s:Setup) (i:Nat):Int:=(s.tiers.getD i (0,0)).2
def jS (s:Setup) (g tier:Int):Int:=if 0<=tier/\tier<s.tiers.length then Kv (wr (yf g*Jv s tier.toNat)) 3600 else 0
structure PayR where
 pays:Nat->Int
 extra:Int
 supp:Int
 total:Int
def j4a (s:Setup) (w:Nat) (t:Nat->Int) (g tier:Int):PayR:=
 let p:=jK s w t
 let e:=jS s g tier
 let sum:=(ZT 0 [p 0,p 1,p 2,p 3,p 4,p 5,p 6,e]).1
 let least:=(upI (wr (yh t 7*s.least)) 3600).1
 let supp:=max 0 (wr (least - sum))
 ⟨p,e,supp,wr (sum+supp)⟩
def wHa (p:PayR):AV:= .tup [.ag (kz p.pays),i64 p.extra,i64 p.supp,i64 p.total,i64 0]
structure PB (h h':List Ob) (s:Setup) (a:SA) (t u:Nat->Int):Prop where
 pre:Pre h h'
 set_:h'[h.length]? =some (.box 30 (zr s a))
 tot:h'[h.length+1]? =some (.box 42 (kz t))
 pay:h'[h.length+2]? =some (.box 42 (kz u))
theorem PB.app {h h':List Ob} {s:Setup} {a:SA} {t u:Nat->Int} (k:PB h h' s a t u) {M:List Ob} (b:NoRes M):PB h (h'++M) s a t u:=⟨k.pre.app b,zb k.set_,zb k.tot,zb k.pay⟩
theorem PB.put {h h':List Ob} {s:Setup} {a:SA} {t u b:Nat->Int} (k:PB h h' s a t u):PB h (h'.set (h.length+2) (.box 42 (kz b))) s a t b:=
 ⟨k.pre.set (by omega) rfl,by rw[List.getElem?_set_ne (by omega)];exact k.set_,by rw[List.getElem?_set_ne (by omega)];exact k.tot,zh k.pay⟩
theorem JNa (h:List Ob) (s:Setup) (a:SA) (k:SIn h s a) (f:SFit s) (Y:zz s=true) (w:Nat) (hw:w<s.rates.length) (t:Nat->Int) (g tier:Int):
  ACalls Tryz.prog 55 [qh s a,i64 w,.ag (kz t),i64 g,i64 tier] h λr h'=>r=wHa (j4a s w t g tier)/\h'=h:=by
 have ξ:=k.r.rows
 refine vm (N:=105) (rs:=[.cell 10 42,.tmp 11,.tmp 12,.tmp 13,.tmp 14]) (fn:=Tryz.f55) rfl rfl rfl rfl (Nat.le_of_ble_eq_true rfl) rfl (⟨_,_,⟨rfl,rfl⟩,.refl⟩) λB=>?_
 refine qC (by decide) ?_
 simp only[go_sem,k.ones]
 refine vd (qC (by decide) ?_)
 simp only[go_sem,k.ones]
 refine zd (c16 _ s a (k.app _) f) ?_
 rintro _ J ⟨rfl,rfl⟩
 simp only[go_sem,Y,zM,Bool.not_true]
 refine vd (qC (by decide) ?_)
 have R:decide ((w:Int)<0)=false:=by rw[decide_eq_false_iff_not];omega
 have O:decide ((w:Int)≥(s.rates.length:Int))=false:=by rw[decide_eq_false_iff_not];omega
 have β:∀M,zo (h++M) a.r=some (s.rates.map zH):=λM=>(k.app M).r.rows
 simp only[go_sem,R,zM,β,O,List.length_map]
 refine vd (qC (by decide) ?_)
 simp only[go_sem]
 refine vd (qC (by decide) ?_)
 simp only[go_sem]
 refine zk (by decide) (λm T h'=>∃n:Nat,n<=7/\PB h h' s a t (λj=>if j<n then jK s w t j else 0)/\T 1=i64 w/\T 3=i64 g/\T 4=i64 tier/\T 5= .ptr h.length 0/\T 7= .ptr (h.length+1) 0/\T 10= .ptr (h.length+2) 0/\T 11=i64 0/\T 15=i64 (yh t n)/\T 34=i64 n/\m=7 - n) 7
  ⟨0,by omega,⟨⟨_,rfl,zg rfl (zg rfl (zj rfl))⟩,by rw[zm rfl];rfl,by rw[zl (k:=1) rfl];rfl,by rw[zl (k:=2) rfl];rfl⟩,by simp only[go_sem],by simp only[go_sem],by simp only[go_sem],by simp only[go_sem],by simp only[go_sem],by simp only[go_sem],by simp only[go_sem],by (simp only[go_sem]<;>rfl),by (simp only[go_sem]<;>rfl),rfl⟩ ?_
 rintro m T h' ⟨n,hn,u,t1,t3,t4,t5,V,t10,o,y,v,rfl⟩
 simp only[go_sem,v]
 refine ways (λe=>?_) (λe=>?_)
 ·have x:(n:Int)<7:=of_decide_eq_true e
  have l:n<7:=by omega
  simp only[go_sem,v]
  refine ways (λe0=>?_) (λe0=>?_)
  ·have D:n=0:=by simpa using e0
   subst D
   simp only[go_sem,v]
   have hu:(λj:Nat=>if j<0+1 then jK s w t j else 0)=λj=>if j<0 then jK s w t j else 0:=by
    funext j
    by_cases hj:j=0
    ·subst hj;rfl
    ·rw[if_neg (by omega),if_neg (by omega)]
   exact ⟨6,by omega,1,by omega,by rw[hu];exact u,t1,t3,t4,t5,V,t10,o,y,rfl,rfl⟩
  ·have D:¬ n=0:=by simpa using e0
   have α:=u.tot
   have hg:=k5a t l
   simp only[go_sem,V,v,α,hg,x,l,Nat.mul_one,Nat.zero_add,Int.toNat_natCast,Int.natCast_nonneg]
   refine zd (Yr _ _) ?_
   rintro _ z ⟨rfl,e2⟩
   rw[e2]
   simp only[go_sem,y]
   refine zp rfl [] 0 [(0,0,[]),(1,0,[]),(3,0,[]),(5,0,[]),(8,0,[]),(2,0,[]),(4,0,[]),(6,0,[]),(7,0,[]),(9,0,[]),(10,0,[]),(11,0,[]),(12,0,[]),(13,0,[])] rfl (by decide) (by decide) ?_
   have b:=u.set_
   have A:=u.pay
   have d:=((u.pre.sin k).r).rows
   have F:=((u.pre.sin k).r).at (i:=w) (by rw[List.length_map];exact hw)
   have c:(s.rates.map zH)[w]? =some [i64 (yV s w)]:=by
    rw[List.getElem?_map,List.getElem?_eq_getElem hw]
    simp[yV,List.getD,hw,zH]
   have G:(w:Int)<s.rates.length:=by omega
   have E:=Yp (λj=>if j<n then jK s w t j else 0) l (jK s w t n)
   have Z:(λj:Nat=>if j=n then jK s w t n else if j<n then jK s w t j else 0)=λj:Nat=>if j<n+1 then jK s w t j else 0:=by
    funext j
    by_cases J:j=n
    ·subst J;rw[if_pos rfl,if_pos (by omega)]
    ·rw[if_neg J]
     by_cases z:j<n
     ·rw[if_pos z,if_pos (by omega)]
     ·rw[if_neg z,if_neg (by omega)]
   rw[Z] at E
   simp only[go_sem,t1,t5,t10,v,b,A,d,F,c,G,x,l,List.length_map,Nat.mul_one,Nat.zero_add,Int.toNat_natCast,Int.natCast_nonneg]
   refine zd (Zoa _ s a (u.pre.sin k) (yV s w) n (by omega)) ?_
   rintro _ h3 ⟨rfl,Q⟩
   rw[Q]
   simp only[go_sem,t1,t5,t10,v,b,A,d,F,c,G,x,l,List.length_map,Nat.mul_one,Nat.zero_add,Int.toNat_natCast,Int.natCast_nonneg]
   refine zd (ypa _ _ _) ?_
   rintro _ h4 ⟨rfl,P⟩
   rw[P]
   have γ:Kv (IntKind.wrap .i64 (yf (t n)*vP s (yV s w) n)) 7200=jK s w t n:=by unfold jK;rw[if_neg D]
   rw[γ]
   simp only[go_sem,t1,t5,t10,v,b,A,d,F,c,G,E,x,l,List.length_map,Nat.mul_one,Nat.zero_add,Int.toNat_natCast,Int.natCast_nonneg]
   exact ⟨7 - (n+1),by omega,n+1,by omega,u.put,t3,t4,V,o,by rw[yh,if_neg D],zy (by omega) rfl,rfl⟩
 ·have O:¬ (n:Int)<7:=of_decide_eq_false e
  have η:n=7:=by omega
  subst η
  simp only[go_sem]
  have ρ:(λj:Nat=>if j<7 then jK s w t j else 0)=λj:Nat=>if j<7 then jK s w t j else 0:=rfl
  refine vd (JW (λK z=>PB h z s a t (λj=>if j<7 then jK s w t j else 0)/\K 5= .ptr h.length 0/\K 10= .ptr (h.length+2) 0/\K 11=i64 (jS s g tier)/\K 15=i64 (yh t 7)) (by decide) ?_ ?_)
  ·have b:=u.set_
   have d:=((u.pre.sin k).t).rows
   simp only[go_sem,t4,t5,b,d,List.length_map]
   cases S:decide (tier≥0)
   ·have J:¬ tier≥0:=of_decide_eq_false S
    have hex:jS s g tier=0:=by unfold jS;rw[if_neg (λq=>J q.1)]
    simp only[go_sem,S,zM]
    rw[hex]
    exact ⟨u,t5,t10,o,y⟩
   ·have J:0<=tier:=of_decide_eq_true S
    cases W:decide (tier<s.tiers.length)
    ·have z:¬ tier<s.tiers.length:=of_decide_eq_false W
     have hex:jS s g tier=0:=by unfold jS;rw[if_neg (λq=>z q.2)]
     simp only[go_sem,S,W,zM,t4,t5,b,d,List.length_map]
     rw[hex]
     exact ⟨u,t10,o,y⟩
    ·have z:tier<s.tiers.length:=of_decide_eq_true W
     simp only[go_sem,S,W,zM,t4,t5,b,d,List.length_map]
     obtain ⟨C,X⟩:∃C:Nat,(C:Int)=tier:=⟨tier.toNat,by omega⟩
     subst X
     have x:C<s.tiers.length:=by omega
     have H:=((u.pre.sin k).t).at (i:=C) (by rw[List.length_map];exact x)
     have c:(s.tiers.map qv)[C]? =some [i64 (s.tiers.getD C (0,0)).1,i64 (s.tiers.getD C (0,0)).2]:=by
      rw[List.getElem?_map,List.getElem?_eq_getElem x]
      simp[List.getD,x,qv]
     have hex:jS s g C=Kv (wr (yf g*Jv s C)) 3600:=by unfold jS;rw[if_pos ⟨by omega,z⟩];rfl
     refine zp rfl [] 0 [(0,0,[]),(2,0,[]),(4,0,[]),(3,0,[]),(5,0,[]),(6,0,[]),(7,0,[]),(1,0,[3,5,7]),(8,0,[]),(9,0,[]),(10,0,[])] rfl (by decide) (by decide) ?_
     simp only[go_sem,t3,t4,t5,b,d,H,c,z,List.length_map,Int.toNat_natCast,Int.natCast_nonneg]
     refine zd (Yr _ _) ?_
     rintro _ h3 ⟨rfl,Q⟩
     rw[Q]
     simp only[go_sem,t3,t4,t5,b,d,H,c,z,List.length_map,Int.toNat_natCast,Int.natCast_nonneg]
     refine zd (ypa _ _ _) ?_
     rintro _ h4 ⟨rfl,P⟩
     rw[P]
     rw[show Kv (IntKind.wrap .i64 (yf g*(s.tiers.getD C (0,0)).2)) 3600=jS s g C from hex.symm]
     simp only[go_sem,t3,t4,t5,b,d,H,c,z,List.length_map,Int.toNat_natCast,Int.natCast_nonneg]
     exact ⟨u,t10,y⟩
  ·clear t1 t3 t4 t5 V t10 o y v u
   rintro K z ⟨u,t5,t10,o,y⟩
   refine k8a (wGa (λj=>if j<7 then jK s w t j else 0) (jS s g tier) rfl (by decide) rfl rfl rfl rfl rfl rfl rfl rfl rfl rfl rfl rfl (by decide) (by decide) (by decide) t10 u.pay o ?_)
   simp only[go_sem]
   obtain ⟨p,hp⟩:∃p,p=jK s w t:=⟨_,rfl⟩
   obtain ⟨e,he⟩:∃e,e=jS s g tier:=⟨_,rfl⟩
   rw[<-hp, <-he]
   refine zd (JMa _ (.tl (z.length+1) 0) [p 0,p 1,p 2,p 3,p 4,p 5,p 6,e] ⟨by rw[zO,zl (k:=1) rfl];rfl,λ_=>by rw[qJ,zl (k:=1) rfl];rfl⟩ (by show 8<1048576;decide)) ?_
   rintro _ h3 ⟨rfl,Q⟩
   rw[Q]
   simp only[go_sem,QP]
   refine vd (qC (by decide) ?_)
   have I:=(u.app (M:=[.row 3 1 [[i64 e]] 0,.row 3 1 [zH (p 0),zH (p 1),zH (p 2),zH (p 3),zH (p 4),zH (p 5),zH (p 6),zH e] 0]) (zg rfl (zj rfl)))
   have b:=I.set_
   have A:(z++[.row 3 1 [[i64 e]] 0,.row 3 1 [zH (p 0),zH (p 1),zH (p 2),zH (p 3),zH (p 4),zH (p 5),zH (p 6),zH e] 0])[h.length+2]? =some (.box 42 (kz p)):=by
    have:=I.pay
    rw[show (kz λj=>if j<7 then jK s w t j else 0)=kz p by rw[hp];rfl] at this
    exact this
   simp only[go_sem,t5,y,b]
   refine zd (cUp _ _ _) ?_
   rintro _ h4 ⟨rfl,P⟩
   rw[P]
   simp only[go_sem,QP]
   refine vd (qr _ (by decide) ?_)
   have hq:j4a s w t g tier=⟨p,e,max 0 (wr ((upI (wr (yh t 7*s.least)) 3600).1 - (ZT 0 [p 0,p 1,p 2,p 3,p 4,p 5,p 6,e]).1)),wr ((ZT 0 [p 0,p 1,p 2,p 3,p 4,p 5,p 6,e]).1+max 0 (wr ((upI (wr (yh t 7*s.least)) 3600).1 - (ZT 0 [p 0,p 1,p 2,p 3,p 4,p 5,p 6,e]).1)))⟩:=by rw[hp,he];rfl
   rw[hq]
   obtain ⟨S0,σ⟩:∃S0,S0=(ZT 0 [p 0,p 1,p 2,p 3,p 4,p 5,p 6,e]).1:=⟨_,rfl⟩
   obtain ⟨U,hU⟩:∃U,U=(upI (wr (yh t 7*s.least)) 3600).1:=⟨_,rfl⟩
   simp only[go_sem,t10,A]
   rw[zW A]
   obtain ⟨L,hL,hN⟩:=I.pre
   refine ⟨wHa _,?_,.inr ⟨h,L,hL,rfl,rfl,.refl,rfl,rfl⟩⟩
   rw[<-he] at o
   simp only[go_sem,t10,o,A,wHa,wV]
set_option maxRecDepth 100000
theorem Vf {c:Ctx}:∀ {xs:List AV} {x:AV} {us:List Value},ARs c (xs++[x]) us->∃b u,us=b++[u]/\ARs c xs b/\AR c x u
 | [],x,us,⟨u,r,f,e,d⟩=>by
   have d:r=[]:=d
   subst d
   exact ⟨[],u,f,rfl,e⟩
 | a::xs,x,us,⟨u,r,f,e,d⟩=>by
   obtain ⟨b,v,i,g,h⟩:=Vf d
   subst i
   exact ⟨u::b,v,f,⟨u,b,rfl,e,g⟩,h⟩
theorem Kx {P:Program} {f:FuncId} {ar:List AV} {h:List Ob} {j:List AV} {e:Nat} {rows:List (List AV)} (p:0<e) (i:zP h.length j=true) (y:z6 h.length rows=true) (c:ACalls P f ar h λr h'=>∃L x,h'=h++L/\NoRes L/\r= .ag (j++[x])/\New h e x rows L):ACalls P f ar h λr h'=>r= .ag (j++[.sl e rows])/\h'=h:=by
 refine ⟨c.1,⟨_,_,⟨rfl,rfl⟩,.refl⟩,λφ l B w g vs m hB b=>?_⟩
 refine (c.2.2 φ l B w g vs m hB b).mono λD w' ⟨v,r,h',g',A,⟨L,x,o,_,z,n1⟩,_,d,k⟩=>?_
 subst o z
 rw[q8 l] at d k
 have a:(fill φ h).length=h.length:=qc
 obtain ⟨us,rfl,q⟩:=k
 obtain ⟨s,u,C,n,t⟩:=Vf q
 refine ⟨_,_,h,g',A,⟨rfl,rfl⟩,.refl,d.drop rfl (by have:=m.ids;exact this),us,rfl,?_⟩
 rw[C]
 exact xX (ARs.less (xW w' g' (fill φ h) L) _ _ (by rw[qc];exact i) n) ⟨u,[],rfl,QW d.ok p t (n1 _ a) (λid hid=>by rw[a];exact n1.root id hid) (by rw[a];exact y),rfl⟩
theorem vga {n:Nat}:∀l:List Seg,z6 n (l.map j7)=true
 | []=>rfl
 | s::l=>by
   rw[List.map_cons,z6,vga l];rfl
theorem zUa {n:Nat}:∀l:List Flg,z6 n (l.map xI)=true
 | []=>rfl
 | s::l=>by
   rw[List.map_cons,z6,zUa l];rfl
theorem wRa (h:List Ob) (s:Setup) (a:SA) (k:SIn h s a) (f:SFit s) (x:AV) (l:List Ev) (w:Int) (b:SlOf h x 11 (l.map evC)) (c:l.length<1048576):
  ACalls Tryz.prog 22 [qh s a,x,i64 w] h λr h'=>r= .tup [.sl 5 ((zR s l w).1.map j7),.sl 2 ((zR s l w).2.map xI)]/\h'=h:=
 W4 (by decide) (by decide) (vga _) (zUa _) (c21 h s a k f x l w b c)
def qY (s:Setup) (w k:Int):Int:=if !zz s then 70 else if w<0∨(s.rates.length:Int)<=w then 80 else if k<0∨52<k then 212 else 0
theorem Zra (h:List Ob) (s:Setup) (a:SA) (k:SIn h s a) (f:SFit s) (w wk:Int):
  ACalls Tryz.prog 47 [qh s a,i64 w,i64 wk] h λr h'=>r=i64 (qY s w wk)/\h'=h:=by
 have c:∀M,zo (h++M) a.r=some (s.rates.map zH):=λM=>(k.app M).r.rows
 refine zf Tryz.f47 [.tmp 6] 28 rfl rfl rfl rfl rfl rfl (by decide) (⟨_,_,⟨rfl,rfl⟩,.refl⟩) λB=>?_
 simp only[go_sem,k.ones]
 refine zd (c16 _ s a (k.app _) f) ?_
 rintro _ d ⟨rfl,rfl⟩
 cases b:zz s
 ·simp only[go_sem,b,zM,Bool.not_false]
  (first | refine zc ?_ | refine ze ?_ (by rfl))<;>(simp only[go_sem,qY,b]<;>try rfl)
 ·simp only[go_sem,b,zM,Bool.not_true]
  cases e:decide (w<0)
  ·have d:¬ w<0:=of_decide_eq_false e
   cases g:decide (w≥(s.rates.length:Int))
   ·have i:¬ (s.rates.length:Int)<=w:=of_decide_eq_false g
    cases j:decide (wk<0)
    ·have m:¬ wk<0:=of_decide_eq_false j
     cases l:decide (wk>52)
     ·have n:¬ 52<wk:=of_decide_eq_false l
      simp only[go_sem,e,g,j,l,zM,c,List.length_map]
      (first | refine zc ?_ | refine ze ?_ (by rfl))<;>(simp only[go_sem,qY,b,d,i,m,n]<;>try rfl)
     ·have n:52<wk:=of_decide_eq_true l
      simp only[go_sem,e,g,j,l,zM,c,List.length_map]
      (first | refine zc ?_ | refine ze ?_ (by rfl))<;>(simp only[go_sem,qY,b,d,i,m,n]<;>try rfl)
    ·have m:wk<0:=of_decide_eq_true j
     simp only[go_sem,e,g,j,zM,c,List.length_map]
     (first | refine zc ?_ | refine ze ?_ (by rfl))<;>(simp only[go_sem,qY,b,d,i,m]<;>try rfl)
   ·have i:(s.rates.length:Int)<=w:=of_decide_eq_true g
    simp only[go_sem,e,g,zM,c,List.length_map]
    (first | refine zc ?_ | refine ze ?_ (by rfl))<;>(simp only[go_sem,qY,b,d,i]<;>try rfl)
  ·have d:w<0:=of_decide_eq_true e
   simp only[go_sem,e,zM]
   (first | refine zc ?_ | refine ze ?_ (by rfl))<;>(simp only[go_sem,qY,b,d]<;>try rfl)
def Q7 (s:Setup) (w:Int) (e:Ev):Bool:=e.worker != w || !yL s e
theorem QOa (h:List Ob) (s:Setup) (a:SA) (k:SIn h s a) (i j:Nat) (w:Int) (d:h[i]? =some (.box 30 (zr s a))) (f:h[j]? =some (.box 3 [i64 w])) (e:Ev):
  ACalls Tryz.prog 50 [evV e,.ptr j 0,.ptr i 0] h λr h'=>r=bl (Q7 s w e)/\h'=h:=by
 have b:∀M,(h++M)[i]? =some (.box 30 (zr s a)):=λM=>zb d
 have c:∀M,(h++M)[j]? =some (.box 3 [i64 w]):=λM=>zb f
 refine zf Tryz.f50 [.tmp 4] 15 rfl rfl rfl rfl rfl rfl (by decide) (⟨_,_,⟨rfl,rfl⟩,.refl⟩) λB=>?_
 simp only[go_sem,b,c,k.ones]
 cases q:e.worker != w
 ·simp only[go_sem,q,zM,b]
  refine zd (c14 _ s a (k.app _) e) ?_
  rintro _ g ⟨rfl,rfl⟩
  simp only[go_sem]
  (first | refine zc ?_ | refine ze ?_ (by rfl))<;>(simp only[go_sem,Q7,q]<;>try rfl)
 ·simp only[go_sem,q,zM]
  (first | refine zc ?_ | refine ze ?_ (by rfl))<;>(simp only[go_sem,Q7,q]<;>try rfl)
theorem QPa (h:List Ob) (j:Nat) (f:Flg) (b:h[j]? =some (.box 97 (xI f))) (e:Ev):
  ACalls Tryz.prog 57 [evV e,.ptr j 0] h λr h'=>r=bl (e.id==f.id)/\h'=h:=by
 have a:∀M,(h++M)[j]? =some (.box 97 [i64 f.id,i64 f.kind]):=λM=>zb b
 refine zf Tryz.f57 [.tmp 3] 9 rfl rfl rfl rfl rfl rfl (by decide) (⟨_,_,⟨rfl,rfl⟩,.refl⟩) λB=>?_
 simp only[go_sem,a]
 (first | refine zc ?_ | refine ze ?_ (by rfl))<;>(simp only[go_sem]<;>try rfl)
end Go.Proofs.YtfmldcilgbbimaaGreat.Ax
