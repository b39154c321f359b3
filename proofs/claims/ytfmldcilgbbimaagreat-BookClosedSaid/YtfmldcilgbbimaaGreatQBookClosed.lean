/-
  BookClosed: whatever the input, the call returns true and leaves its arguments as they were. No condition.
-/
import Derived.Test.YtfmldcilgbbimaaGreatK47
import Derived.Test.YtfmldcilgbbimaaGreatRows
import Derived.Test.YtfmldcilgbbimaaGreatO0BookClosed
import Derived.Test.YtfmldcilgbbimaaGreatO1BookClosed
import Derived.Test.YtfmldcilgbbimaaGreatO2BookClosed
import Derived.WalkKit
import Derived.ProofKit
import Derived.OpenShut
import Derived.ShutString
import Derived.ChangeOld
import Derived.Below
import Derived.Deep.Matrix
set_option linter.unusedSimpArgs false
set_option linter.unusedVariables false
namespace Go.Proofs.YtfmldcilgbbimaaGreat.Ax
open Go Go.Proofs
set_option maxRecDepth 100000
set_option maxHeartbeats 4000000 in
theorem cBookClosed (h:List Ob) (s:Setup) (a:SA) (k:SIn h s a) (f0:SFit0 s) (x:AV) (l:List Cm) (hx:SlOf h x 16 (l.map Km)):
  ACalls Tryz.prog 8 [z6 s a,x] h λr h'=>r=bl true/\h'=h:=by
 refine zf Tryz.f8 [.tmp 4] 100 rfl rfl rfl rfl rfl rfl (by decide) (⟨_,_,⟨rfl,rfl⟩,.refl⟩) λB=>?_
 simp only[go_sem,k.w.one,k.e.one,k.c.one,k.g.one,k.r.one,k.t.one]
 refine zc (zgb _) ?_
 rintro _ y ⟨rfl,rfl⟩
 have V:∀M,SIn (h++M) s a:=λM=>k.app M
 simp only[go_sem,(V _).ones]
 refine zc (XZa _ s a (V _) f0.fit) ?_
 rintro _ y ⟨rfl,rfl⟩
 have G:=(vE (h:=h) s).ones
 cases ψ:zw s
 ·simp only[go_sem,Xqa,zA,xb,(V _).ones]
  refine zc (zab _ s a (V _) x l (hx.app _)) ?_
  rintro _ y ⟨rfl,p⟩
  rw[p]
  cases hf:(Wh s && decide (l.length<=40))
  ·simp only[go_sem,zJ]
   (first | refine zd ?_ | refine ze ?_ (by rfl))<;>(simp only[go_sem]<;>try rfl)
  ·simp only[go_sem,zJ,zib]
   (first | refine zd ?_ | refine ze ?_ (by rfl))<;>(simp only[go_sem]<;>try rfl)
 ·simp only[go_sem,G,(V _).ones]
  refine zc (zab _ s a (V _) x l (hx.app _)) ?_
  rintro _ y ⟨rfl,p⟩
  rw[p]
  cases hf:(Wh s && decide (l.length<=40))
  ·simp only[go_sem,zJ]
   (first | refine zd ?_ | refine ze ?_ (by rfl))<;>(simp only[go_sem]<;>try rfl)
  ·rw[Bool.and_eq_true,decide_eq_true_eq] at hf
   obtain ⟨δ,hll⟩:=hf
   have f:=f0.few δ
   have μ:=Vwa δ
   simp only[go_sem,zJ,G,bne_self_eq_false]
   refine zj (by decide) (λm T H=>∃(n:Nat) (b:Bk),n<=l.length/\BkI s b/\HasB h H s a b/\T 1=x/\T 2= .ptr h.length 0/\T 5=bl true/\T 6= .ptr (h.length+1) 0/\T 8=i64 n/\m=l.length - n) l.length
    ⟨0,zUa,by omega,wSa s,⟨⟨_,rfl,zg rfl (zi rfl)⟩,by rw[zo rfl];rfl,by rw[zm (k:=1) rfl];rfl⟩,by simp only[go_sem],by simp only[go_sem],by simp only[go_sem],by simp only[go_sem],by (simp only[go_sem]<;>rfl),rfl⟩ ?_
   rintro m T H ⟨n,b,hn,D,U,t1,t2,t5,t6,t8,rfl⟩
   have J:=U.pre.sl hx
   have Z:=J.rows
   simp only[go_sem,t1,t8,Z,List.length_map]
   refine ways (λe=>?_) (λe=>?_)
   ·have N:=dlt e
    have K:=Xpa N
    have ρ:(n:Int)<l.length:=by omega
    have X:=J.at (i:=n) (by simpa using N)
    obtain ⟨q,hq⟩:∃q,q=l[n]:=⟨_,rfl⟩
    rw[<-hq] at K
    have I:=U.bk
    have θ:∀M,(H++M)[h.length+1]? =some (bkO s b):=λM=>zb I
    have ξ:∀M,zq (H++M) x=some (l.map Km):=λM=>(J.app M).rows
    have ν:∀M,eOf (H++M) x=some 16:=λM=>(J.app M).at (i:=n) (by simpa using N)
    simp only[go_sem]
    refine zn rfl [.res,.res] 2 [(1,0,[]),(2,0,[]),(0,0,[]),(3,0,[]),(4,0,[]),(5,0,[]),(6,0,[]),(7,0,[]),(8,0,[]),(9,0,[]),(10,1,[]),(11,0,[]),(12,0,[])] rfl (by decide) (by decide) ?_
    simp only[go_sem,t1,t6,t8,I,θ,ξ,ν,G,K,ρ,Z,X,List.length_map,Int.toNat_natCast,Int.natCast_nonneg]
    refine zc (cDo _ s f b D q μ) ?_
    rintro _ y ⟨rfl,p⟩
    rw[p]
    clear p y
    have u:=vqa q D
    have E:∀(w wk:Int),wk∈b.shut->zW s (doP s b q).1.evs w wk=zW s b.evs w wk:=λw wk hw=>K8a D q hw
    obtain ⟨b2,o⟩:∃b2,b2=(doP s b q).1:=⟨_,rfl⟩
    obtain ⟨w,hw⟩:∃w,w=(doP s b q).2:=⟨_,rfl⟩
    rw[<-o] at u E
    rw[<-o, <-hw]
    clear o hw
    have hev:=D.few
    have φ:=u.few
    have χ:=jXa D
    have τ:=jXa u
    simp only[go_sem,G]
    obtain ⟨H2,F⟩:∃H2,H2=H++[Ob.box 64 (xX s (frA s) (BX b2) (BC b2)),Ob.box 69 (jE w)]:=⟨_,rfl⟩
    have O:HasB h H2 s a b:=by rw[F];exact U.app (zg rfl (zi rfl))
    have o:H2[H.length]? =some (.box 64 (xX s (frA s) (BX b2) (BC b2))):=by rw[F,zo rfl];rfl
    rw[<-F]
    have I:=O.bk
    have A:=O.st
    have P:=O.pre.sin k
    have Y:=P.ones
    refine zj (by decide) (λm T h'=>∃i:Nat,i<=b.shut.length/\h'=H2/\T 1=x/\T 2= .ptr h.length 0/\T 5=bl true/\T 6= .ptr (h.length+1) 0/\T 8=i64 n/\T 9= .ptr H.length 0/\T 11=i64 i/\m=b.shut.length - i) b.shut.length
     ⟨0,by omega,rfl,by simp only[go_sem,t1],by simp only[go_sem,t2],by simp only[go_sem,t5],by simp only[go_sem,t6],by simp only[go_sem,t8],by simp only[go_sem],by (simp only[go_sem]<;>rfl),rfl⟩ ?_
    rintro m T h' ⟨i,hi,rfl,t1,t2,t5,t6,t8,t9,d,rfl⟩
    cases c1:decide ((i:Int)<b.shut.length)
    ·simp only[go_sem,t6,t8,t9,d,I,o,G,c1,zJ,List.length_map]
     rw[F]
     exact ⟨l.length - (n+1),by omega,n+1,b2,by omega,u,(U.app (zg rfl (zi rfl))).put b2,t1,t2,t5,zx (by omega) rfl,rfl⟩
    cases c2:decide ((i:Int)<3)
    ·simp only[go_sem,t6,t8,t9,d,I,o,G,c1,c2,zJ,List.length_map]
     rw[F]
     exact ⟨l.length - (n+1),by omega,n+1,b2,by omega,u,(U.app (zg rfl (zi rfl))).put b2,t1,t2,t5,zx (by omega) rfl,rfl⟩
    have γ:i<b.shut.length:=dlt c1
    have Q:(i:Int)<b.shut.length:=by omega
    have S:(b.shut.map zz)[i]? =some (zz b.shut[i]):=WR (List.getElem?_eq_getElem γ)
    have α:=List.getElem_mem γ
    simp only[go_sem,t6,d,I,G,c1,c2,zJ,List.length_map]
    refine zn rfl [] 0 [(1,0,[]),(3,0,[]),(0,0,[]),(2,0,[]),(4,0,[]),(5,0,[]),(6,0,[]),(7,0,[])] rfl (by decide) (by decide) ?_
    simp only[go_sem,t6,t9,d,I,o,G,S,Q,zz,List.length_map,Int.toNat_natCast,Int.natCast_nonneg]
    refine zc (Yba _ s b2 b.shut[i] (by omega)) ?_
    rintro _ y ⟨rfl,p⟩
    rw[p]
    clear p y
    obtain ⟨st,W⟩:∃z,z=qB b2.shut b.shut[i]:=⟨_,rfl⟩
    rw[<-W]
    simp only[go_sem]
    refine zj (by decide) (λm T h2=>∃j:Nat,j<=s.rates.length/\h2=h'/\T 1=x/\T 2= .ptr h.length 0/\T 5=bl true/\T 6= .ptr (h.length+1) 0/\T 8=i64 n/\T 9= .ptr H.length 0/\T 11=i64 i/\T 12=bl st/\T 13=i64 j/\m=s.rates.length - j) s.rates.length
     ⟨0,by omega,rfl,by simp only[go_sem,t1],by simp only[go_sem,t2],by simp only[go_sem,t5],by simp only[go_sem,t6],by simp only[go_sem,t8],by simp only[go_sem,t9],by simp only[go_sem,d],by simp only[go_sem],by (simp only[go_sem]<;>rfl),rfl⟩ ?_
    rintro m T h2 ⟨j,hj,rfl,t1,t2,t5,t6,t8,t9,d,C,v,rfl⟩
    cases d1:decide ((j:Int)<s.rates.length)
    ·simp only[go_sem,t2,d,C,v,A,P.r.rows,d1,zJ,List.length_map]
     exact ⟨b.shut.length - (i+1),by omega,i+1,by omega,t1,t5,t6,t8,t9,zx (by omega) rfl,rfl⟩
    cases d2:decide ((j:Int)<3)
    ·simp only[go_sem,t2,d,C,v,A,P.r.rows,d1,d2,zJ,List.length_map]
     exact ⟨b.shut.length - (i+1),by omega,i+1,by omega,t1,t5,t6,t8,t9,zx (by omega) rfl,rfl⟩
    cases st
    ·simp only[go_sem,t2,d,C,v,A,P.r.rows,d1,d2,zJ,List.length_map]
     exact ⟨b.shut.length - (i+1),by omega,i+1,by omega,t1,t5,t6,t8,t9,zx (by omega) rfl,rfl⟩
    have hjl:j<s.rates.length:=dlt d1
    simp only[go_sem,t2,d,C,v,A,P.r.rows,d1,d2,zJ,List.length_map]
    refine zn rfl [] 0 [(1,0,[]),(3,0,[]),(4,0,[]),(6,0,[]),(11,0,[]),(13,0,[]),(14,0,[]),(16,0,[]),(0,0,[]),(2,0,[]),(5,0,[]),(7,0,[]),(8,0,[]),(10,0,[]),(12,0,[]),(15,0,[]),(17,0,[]),(18,0,[]),(9,0,[10,12,15,17,18]),(19,0,[]),(20,0,[]),(21,0,[])] rfl (by decide) (by decide) ?_
    simp only[go_sem,t2,t6,t9,d,v,A,I,o,G,Y,S,Q,zz,List.length_map,Int.toNat_natCast,Int.natCast_nonneg]
    refine zc (WJa _ s a P f (BX b) b.evs (j:Int) b.shut[i] ⟨rfl,λ_=>rfl⟩ (by omega)) ?_
    rintro _ y ⟨rfl,p⟩
    rw[p]
    clear p y
    simp only[go_sem,t2,t6,t9,d,v,A,I,o,G,Y,S,Q,zz,List.length_map,Int.toNat_natCast,Int.natCast_nonneg]
    refine zc (WJa _ s a P f (BX b2) b2.evs (j:Int) b.shut[i] ⟨rfl,λ_=>rfl⟩ (by omega)) ?_
    rintro _ y ⟨rfl,p⟩
    rw[p,E _ _ α]
    clear p y
    have ο:=(jRa f b.evs (j:Int) b.shut[i] (by omega)).2
    obtain ⟨R,hR⟩:∃R,R=zW s b.evs (j:Int) b.shut[i]:=⟨_,rfl⟩
    rw[<-hR] at ο⊢
    simp only[go_sem]
    refine zc (Yka _ R (by omega)) ?_
    rintro _ y ⟨rfl,p⟩
    rw[p]
    clear p y
    simp only[go_sem,v,zJ]
    exact ⟨s.rates.length - (j+1),by omega,j+1,by omega,t1,t2,t5,t6,t8,t9,d,C,zx (by omega) rfl,rfl⟩
   ·have hge:=qU e
    obtain ⟨L,hL,_⟩:=U.pre
    simp only[go_sem,t5]
    rw[hL]
    (first | refine zd ?_ | refine ze ?_ (by rfl))<;>(simp only[go_sem]<;>try rfl)
end Go.Proofs.YtfmldcilgbbimaaGreat.Ax
namespace Go.Proofs.YtfmldcilgbbimaaGreat.bookClosed
open Go.ChangeShapes Go.WideShapes Go.ChangeAt Go.RowKit
open Go.ChangeMaps (open_string shut_string)
theorem own:ownKnob Tryz.prog.godebug=none:=by kernel_rfl
theorem laidOut:laidOutB Tryz.prog=true:=by kernel_rfl
def IsRow (k:IntKind) (w:World) (a:Option Addr) (len cap:Nat) (b:List Int):Prop:=
 (a=none/\len=0/\cap=0/\b=[])∨
 ∃x,a=some x/\len<=cap/\cap<=maxLen/\b.length=cap/\(∀i,i<b.length->w.cell? (x.add i)=some (.int k (b.getD i 0)))/\∀n∈b,(Lit.int k n).wf=true
theorem walk (b:Value) (c:Value) (w:World) (i:Ax.InSet w b) (h:Ax.InCms w c):
  Calls Tryz.prog 8 #[b,c] w λe w'=>e= .returned (.bool true)/\Below w.heap.size w w':=by
 obtain ⟨s,a,d,ks,g⟩:=i
 obtain ⟨x,l,f,sl⟩:=h
 exact Ax.run_law (Ax.cBookClosed [] s a ks g x l sl) ⟨_,_,rfl,d,_,_,rfl,f,rfl⟩
set_option maxRecDepth 100000 in
theorem lifted (os:Os) (started:os.Started) (H:Type) (enc:TypeId × Value->H):
  ReturnsInHanded {} Tryz.checked os 8 .any (Rows.bookClosedSpec.pre6 enc Tryz.prog Tryz.f8 Rows.bookClosedRow.domain false) (Rows.bookClosedSpec.post enc Tryz.prog Tryz.f8 false true false false):=by
 refine returnsInHanded_of_change (C:=Tryz.checked) own started (by kernel_rfl) Tryz.func8
  (ChangeSpec.witness6 (enc:=enc) (C:=Tryz.checked) false ⟨#[], #[.agg #[.int .i64 0,.slice none 0 0,.int .i64 0,.int .i64 0,.slice none 0 0,.slice none 0 0,.slice none 0 0,.int .i64 0,.int .i64 0,.int .i64 0,.int .i64 0,.int .i64 0,.int .i64 0,.int .i64 0,.int .i64 0,.int .i64 0,.int .i64 0,.int .i64 0,.slice none 0 0,.int .i64 0,.int .i64 0,.int .i64 0,.slice none 0 0],.slice none 0 0],[]⟩ 8 (by kernel_rfl) (by kernel_rfl) (by kernel_rfl) (by kernel_rfl)) ?_
 intro W base args ds gs before b w y _
 have a:∀(j:Nat) t v,Tryz.f8.params[j]? =some t->args[j]? =some v->Value.okWide Tryz.prog W .any base t v:=b
 have l:=w
 obtain ⟨p,q,i,B,rfl,J,M⟩:=w
 have s:DataW.TrodAll enc Tryz.prog W 0 (λ_=>true) true Tryz.f8.params.toList args.toList ds p:=i
 rw[Tryz.params8] at s a
 obtain ⟨v0,K,R,G,L,S,r,rfl,rfl,h0,O⟩:=trodAll_cons s
 obtain ⟨v1,N,T,E,p1,Q,rfl,rfl,rfl,z,P⟩:=trodAll_cons O
 obtain ⟨rfl,rfl,rfl⟩:=trodAll_nil P
 obtain rfl:args= #[v0,v1]:=by cases args;simp_all
 obtain ⟨rfl,rfl⟩:=trodVars_none B
 have k0:=h0
 have n:∀x∈L,x.block<W.heap.size:=by obtain ⟨m,k⟩:=k0;exact DataW.trod_lt m _ _ _ k
 have F:=Ax.setup_in (a 0 30 v0 rfl rfl) h0
 have k1:=z
 have o:∀x∈p1,x.block<W.heap.size:=by obtain ⟨m,k⟩:=k1;exact DataW.trod_lt m _ _ _ k
 obtain ⟨c,f,g,rfl⟩:=okWide_slice Tryz.underlying62 (a 1 62 v1 rfl rfl)
 have D:=(by obtain ⟨u,A⟩:=z;exact Ax.cms_in (v:= .slice c f g) (by simpa [Value.cells] using A):Ax.InCms W (.slice c f g))
 clear i b
 refine (walk v0 (.slice c f g) W F D).mono λe U ⟨I,d⟩=>?_
 subst I
 exact ⟨_,rfl,_,_,_,[],_,[],l,trodAll_mk1 (shut_bool Tryz.underlying4 _),(trodAll_cons_mk (Below.trod laidOut (by kernel_rfl) (of_decide_eq_true (by kernel_rfl)) k0 d n) (trodAll_cons_mk (Below.trod laidOut (by kernel_rfl) (of_decide_eq_true (by kernel_rfl)) k1 d o) trodAll_mk0)),rfl,d.frame _,λh=>by cases h⟩
theorem over:Rows.bookClosedRow.holds Tryz.pinned (OpenSpec.ofChange Rows.bookClosedSpec):=
 OpenClaim.holds_of_wide 8 Tryz.f8 rfl rfl rfl rfl rfl rfl rfl ⟨rfl,rfl,rfl,rfl,rfl⟩ rfl rfl rfl rfl rfl (by kernel_rfl) Tryz.func8 (bookClosedJ.rest bookClosedJ.may bookClosedJ.lift bookClosedJ.make)
  (of_decide_eq_true (by kernel_rfl)) (by unfold Func.isWrapper;first | (rw[if_pos (by decide+kernel)];kernel_rfl) | (rw[if_neg (by decide+kernel)];exact ⟨rfl,rfl⟩))
  (λos started H enc _=>lifted os started H enc)
theorem proved:Rows.BookClosedSaid:=over
#print axioms proved
end Go.Proofs.YtfmldcilgbbimaaGreat.bookClosed
