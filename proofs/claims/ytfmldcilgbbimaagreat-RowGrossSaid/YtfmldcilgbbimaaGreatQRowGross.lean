/-
  RowGross: whatever the input, the call returns true and leaves its arguments as they were. No condition.
-/
import Derived.Test.YtfmldcilgbbimaaGreatK39
import Derived.Test.YtfmldcilgbbimaaGreatK42
import Derived.Test.YtfmldcilgbbimaaGreatK20
import Derived.Test.YtfmldcilgbbimaaGreatK23
import Derived.Test.YtfmldcilgbbimaaGreatRows
import Derived.Test.YtfmldcilgbbimaaGreatO0RowGross
import Derived.Test.YtfmldcilgbbimaaGreatO1RowGross
import Derived.Test.YtfmldcilgbbimaaGreatO2RowGross
import Derived.WalkKit
import Derived.ProofKit
import Derived.OpenShut
import Derived.ShutString
import Derived.ChangeOld
import Derived.Below
import Derived.Deep.Matrix
set_option linter.unusedSimpArgs false
set_option linter.unusedVariables false
namespace Go.Proofs.YtfmldcilgbbimaaGreat.Ax
open Go Go.Proofs
set_option maxRecDepth 100000
theorem c20few (h:List Ob) (s:Setup) (a:SA) (k:SIn h s a) (x:AV) (l:List Ev) (j:SlOf h x 11 (l.map evC)):ACalls Tryz.prog 14 [qh s a,x] h λr h'=>r=bl (kOa s && decide (l.length<=60))/\h'=h:=by
 refine zf Tryz.f14 [.tmp 4] 12 rfl rfl rfl rfl rfl rfl (by decide) (⟨_,_,⟨rfl,rfl⟩,.refl⟩) λB=>?_
 simp only[go_sem,k.w.one,k.e.one,k.c.one,k.g.one,k.r.one,k.t.one]
 refine zd (c25 _ s a (k.app _)) ?_
 rintro _ m ⟨rfl,f⟩
 subst f
 have i:∀M,zo (h++M) x=_:=λM=>(j.app M).rows
 have d:decide ((l.length:Int)<=60)=decide (l.length<=60):=decide_eq_decide.2 (by omega)
 cases b:kOa s with
 | false=>
   simp only[go_sem,b,zM]
   (first | refine zc ?_ | refine ze ?_ (by rfl))<;>(simp only[go_sem,b,Bool.false_and]<;>try rfl)
 | true=>
   simp only[go_sem,b,zM,i,List.length_map,d]
   (first | refine zc ?_ | refine ze ?_ (by rfl))<;>(simp only[go_sem,b,Bool.true_and]<;>try rfl)
set_option maxHeartbeats 4000000 in
theorem cRowGross (h:List Ob) (s:Setup) (a:SA) (k:SIn h s a) (f0:SFit0 s) (x:AV) (l:List Ev) (Z:SlOf h x 11 (l.map evC)) (w wk:Int):
  ACalls Tryz.prog 5 [qh s a,x,i64 w,i64 wk] h λr h'=>r=bl true/\h'=h:=by
 refine zf Tryz.f5 [.tmp 8] 137 rfl rfl rfl rfl rfl rfl (by decide) (⟨_,_,⟨rfl,rfl⟩,.refl⟩) λB=>?_
 simp only[go_sem,k.w.one,k.e.one,k.c.one,k.g.one,k.r.one,k.t.one]
 refine zd (JSa _) ?_
 rintro _ J ⟨rfl,rfl⟩
 have O:∀M,SIn (h++M) s a:=λM=>k.app M
 simp only[go_sem,(O _).ones]
 refine zd (c20few _ s a (O _) x l (Z.app _)) ?_
 rintro _ J ⟨rfl,p⟩
 rw[p]
 cases Y:(kOa s && decide (l.length<=60))
 ·simp only[go_sem,zM]
  (first | refine zc ?_ | refine ze ?_ (by rfl))<;>(simp only[go_sem]<;>try rfl)
 ·rw[Bool.and_eq_true,decide_eq_true_eq] at Y
  obtain ⟨Q,γ⟩:=Y
  have f:=f0.few Q
  simp only[go_sem,zM,(O _).ones]
  refine zd (QRa _ s a (O _) f x l w wk (Z.app _) (by omega)) ?_
  rintro _ J ⟨rfl,p⟩
  rw[p]
  clear p J
  have N:=QTa s l w wk
  generalize qH s l w wk=W at N⊢
  obtain ⟨R,F⟩:=W
  have N:GrossOk s R:=N
  simp only[go_sem,zVa,List.cons_append,List.nil_append]
  obtain ⟨H,v⟩:∃H,H=h++[Ob.box 30 (zr s a),Ob.box 45 (jL R (.sl 2 (F.map xI)))]:=⟨_,rfl⟩
  have j:H[h.length+1]? =some (.box 45 (jL R (.sl 2 (F.map xI)))):=by rw[v,zl (k:=1) rfl];rfl
  have L:H[h.length]? =some (.box 30 (zr s a)):=by rw[v,zm rfl];rfl
  have K:=v
  simp only[jL] at K
  rw[<-K]
  clear K
  refine zk (by decide) (λm T h'=>∃n:Nat,n<=7/\h'=H/\T 4= .ptr h.length 0/\T 9=bl true/\T 10= .ptr (h.length+1) 0/\T 11=i64 (wUa (wr (R.extra+R.supp)) R.pays n)/\T 12=i64 (YA R.tot n)/\T 13=i64 n/\m=7 - n) 7
   ⟨0,by omega,rfl,by simp only[go_sem],by simp only[go_sem],by simp only[go_sem],by (simp only[go_sem]<;>rfl),by (simp only[go_sem]<;>rfl),by (simp only[go_sem]<;>rfl),rfl⟩ ?_
  rintro m T h' ⟨n,hn,rfl,t4,t9,t10,d,i,b,rfl⟩
  simp only[go_sem,b]
  refine ways (λe=>?_) (λe=>?_)
  ·have ε:(n:Int)<7:=of_decide_eq_true e
   obtain rfl | rfl | rfl | rfl | rfl | rfl | rfl:n=0∨n=1∨n=2∨n=3∨n=4∨n=5∨n=6:=by omega
   ·have b:T 13=i64 0:=b
    have q:decide ((0:Int)>0)=false:=rfl
    simp only[go_sem,t10,d,i,b,j,q,zM,jL]
    exact ⟨7 - (0+1),by omega,0+1,by omega,t4,t9,rfl,rfl,rfl,rfl⟩
   ·have b:T 13=i64 1:=b
    have q:decide ((1:Int)>0)=true:=rfl
    simp only[go_sem,t10,d,i,b,j,q,zM,jL]
    exact ⟨7 - (1+1),by omega,1+1,by omega,t4,t9,rfl,rfl,rfl,rfl⟩
   ·have b:T 13=i64 2:=b
    have q:decide ((2:Int)>0)=true:=rfl
    simp only[go_sem,t10,d,i,b,j,q,zM,jL]
    exact ⟨7 - (2+1),by omega,2+1,by omega,t4,t9,rfl,rfl,rfl,rfl⟩
   ·have b:T 13=i64 3:=b
    have q:decide ((3:Int)>0)=true:=rfl
    simp only[go_sem,t10,d,i,b,j,q,zM,jL]
    exact ⟨7 - (3+1),by omega,3+1,by omega,t4,t9,rfl,rfl,rfl,rfl⟩
   ·have b:T 13=i64 4:=b
    have q:decide ((4:Int)>0)=true:=rfl
    simp only[go_sem,t10,d,i,b,j,q,zM,jL]
    exact ⟨7 - (4+1),by omega,4+1,by omega,t4,t9,rfl,rfl,rfl,rfl⟩
   ·have b:T 13=i64 5:=b
    have q:decide ((5:Int)>0)=true:=rfl
    simp only[go_sem,t10,d,i,b,j,q,zM,jL]
    exact ⟨7 - (5+1),by omega,5+1,by omega,t4,t9,rfl,rfl,rfl,rfl⟩
   ·have b:T 13=i64 6:=b
    have q:decide ((6:Int)>0)=true:=rfl
    simp only[go_sem,t10,d,i,b,j,q,zM,jL]
    exact ⟨7 - (6+1),by omega,6+1,by omega,t4,t9,rfl,rfl,rfl,rfl⟩
  ·have δ:¬ ((n:Int)<7):=of_decide_eq_false e
   have V:n=7:=by omega
   subst V
   have β:s.least=s.least:=rfl
   by_cases I:R.err=70∨R.err=80∨R.err=212
   ·obtain ⟨S,D,C,o,u⟩:=N.bad I
    rw[S] at d
    rw[D] at i
    cases y:R.err==70
    ·cases A:R.err==80
     ·have E:(R.err==212)=true:=by
       rw[beq_eq_false_iff_ne] at y A
       rw[beq_iff_eq]
       omega
      simp only[go_sem,t9,t10,d,i,j,jL,y,A,E,C,o,u,beq_self_eq_true,zM]
      rw[v]
      (first | refine zc ?_ | refine ze ?_ (by rfl))<;>(simp only[go_sem]<;>try rfl)
     ·simp only[go_sem,t9,t10,d,i,j,jL,y,A,C,o,u,beq_self_eq_true,zM]
      rw[v]
      (first | refine zc ?_ | refine ze ?_ (by rfl))<;>(simp only[go_sem]<;>try rfl)
    ·simp only[go_sem,t9,t10,d,i,j,jL,y,C,o,u,beq_self_eq_true,zM]
     rw[v]
     (first | refine zc ?_ | refine ze ?_ (by rfl))<;>(simp only[go_sem]<;>try rfl)
   ·obtain ⟨S,D,C,o,u⟩:=N.sum I
    have y:(R.err==70)=false:=by rw[beq_eq_false_iff_ne];omega
    have A:(R.err==80)=false:=by rw[beq_eq_false_iff_ne];omega
    have E:(R.err==212)=false:=by rw[beq_eq_false_iff_ne];omega
    rw[S] at d
    have u:decide (IntKind.wrap .i64 (R.total*3600)≥IntKind.wrap .i64 (YA R.tot 7*s.least))=true:=decide_eq_true u
    have p:decide (R.tier≥0)=true∨(decide (R.tier≥0)=false/\(R.extra==0)=true):=by
     rcases C with C | C
     ·exact .inl (decide_eq_true C)
     ·by_cases ht:R.tier≥0
      ·exact .inl (decide_eq_true ht)
      ·exact .inr ⟨decide_eq_false ht,by rw[C];rfl⟩
    have z:(decide (R.elig>0)=true/\(R.err==0)=true)∨(decide (R.elig>0)=true/\(R.err==0)=false/\(R.tier== -1)=true)∨(decide (R.elig>0)=false/\(R.tier== -1)=true):=by
     by_cases J:R.elig>0
     ·by_cases P:R.err=0
      ·exact .inl ⟨decide_eq_true J,by rw[P];rfl⟩
      ·rcases o with o | o
       ·exact absurd o.2 P
       ·exact .inr (.inl ⟨decide_eq_true J,by rw[beq_eq_false_iff_ne];exact P,by rw[o];rfl⟩)
     ·rcases o with o | o
      ·exact absurd o.1 J
      ·exact .inr (.inr ⟨decide_eq_false J,by rw[o];rfl⟩)
    rcases p with p | ⟨p,U⟩<;>rcases z with ⟨z,G⟩ | ⟨z,G,X⟩ | ⟨z,G⟩
    ·simp only[go_sem,t4,t9,t10,d,i,j,L,jL,y,A,E,D,u,p,z,G,beq_self_eq_true,zM]
     rw[v]
     (first | refine zc ?_ | refine ze ?_ (by rfl))<;>(simp only[go_sem]<;>try rfl)
    ·simp only[go_sem,t4,t9,t10,d,i,j,L,jL,y,A,E,D,u,p,z,G,X,beq_self_eq_true,zM]
     rw[v]
     (first | refine zc ?_ | refine ze ?_ (by rfl))<;>(simp only[go_sem]<;>try rfl)
    ·simp only[go_sem,t4,t9,t10,d,i,j,L,jL,y,A,E,D,u,p,z,G,beq_self_eq_true,zM]
     rw[v]
     (first | refine zc ?_ | refine ze ?_ (by rfl))<;>(simp only[go_sem]<;>try rfl)
    ·simp only[go_sem,t4,t9,t10,d,i,j,L,jL,y,A,E,D,u,p,U,z,G,beq_self_eq_true,zM]
     rw[v]
     (first | refine zc ?_ | refine ze ?_ (by rfl))<;>(simp only[go_sem]<;>try rfl)
    ·simp only[go_sem,t4,t9,t10,d,i,j,L,jL,y,A,E,D,u,p,U,z,G,X,beq_self_eq_true,zM]
     rw[v]
     (first | refine zc ?_ | refine ze ?_ (by rfl))<;>(simp only[go_sem]<;>try rfl)
    ·simp only[go_sem,t4,t9,t10,d,i,j,L,jL,y,A,E,D,u,p,U,z,G,beq_self_eq_true,zM]
     rw[v]
     (first | refine zc ?_ | refine ze ?_ (by rfl))<;>(simp only[go_sem]<;>try rfl)
end Go.Proofs.YtfmldcilgbbimaaGreat.Ax
namespace Go.Proofs.YtfmldcilgbbimaaGreat.rowGross
open Go.ChangeShapes Go.WideShapes Go.ChangeAt Go.RowKit
open Go.ChangeMaps (open_string shut_string)
theorem own:ownKnob Tryz.prog.godebug=none:=by kernel_rfl
theorem laidOut:laidOutB Tryz.prog=true:=by kernel_rfl
def IsRow (k:IntKind) (w:World) (a:Option Addr) (len cap:Nat) (b:List Int):Prop:=
 (a=none/\len=0/\cap=0/\b=[])∨
 ∃x,a=some x/\len<=cap/\cap<=maxLen/\b.length=cap/\(∀i,i<b.length->w.cell? (x.add i)=some (.int k (b.getD i 0)))/\∀n∈b,(Lit.int k n).wf=true
theorem walk (b:Value) (c:Value) (a2:Int) (a3:Int) (w:World) (d:Ax.InSet w b) (i:Ax.InEvs w c) (j:(Lit.int .i64 a2).wf=true) (k:(Lit.int .i64 a3).wf=true):
  Calls Tryz.prog 5 #[b,c,.int .i64 a2,.int .i64 a3] w λe w'=>e= .returned (.bool true)/\Below w.heap.size w w':=by
 obtain ⟨s,a,g,ks,f⟩:=d
 obtain ⟨x,l,h,sl⟩:=i
 exact Ax.run_law (Ax.cRowGross [] s a ks f x l sl a2 a3) ⟨_,_,rfl,g,_,_,rfl,h,_,_,rfl,rfl,_,_,rfl,rfl,rfl⟩
set_option maxRecDepth 100000 in
theorem lifted (os:Os) (started:os.Started) (H:Type) (enc:TypeId × Value->H):
  ReturnsInHanded {} Tryz.checked os 5 .any (Rows.rowGrossSpec.pre6 enc Tryz.prog Tryz.f5 Rows.rowGrossRow.domain false) (Rows.rowGrossSpec.post enc Tryz.prog Tryz.f5 false true false false):=by
 refine returnsInHanded_of_change (C:=Tryz.checked) own started (by kernel_rfl) Tryz.func5
  (ChangeSpec.witness6 (enc:=enc) (C:=Tryz.checked) false ⟨#[], #[.agg #[.int .i64 0,.slice none 0 0,.int .i64 0,.int .i64 0,.slice none 0 0,.slice none 0 0,.slice none 0 0,.int .i64 0,.int .i64 0,.int .i64 0,.int .i64 0,.int .i64 0,.int .i64 0,.int .i64 0,.int .i64 0,.int .i64 0,.int .i64 0,.int .i64 0,.slice none 0 0,.int .i64 0,.int .i64 0,.int .i64 0,.slice none 0 0],.slice none 0 0,.int .i64 0,.int .i64 0],[]⟩ 8 (by kernel_rfl) (by kernel_rfl) (by kernel_rfl) (by kernel_rfl)) ?_
 intro W base args ds gs before b w y _
 have a:∀(j:Nat) t v,Tryz.f5.params[j]? =some t->args[j]? =some v->Value.okWide Tryz.prog W .any base t v:=b
 have n:=w
 obtain ⟨p,q,i,Y,rfl,β,P⟩:=w
 have s:DataW.TrodAll enc Tryz.prog W 0 (λ_=>true) true Tryz.f5.params.toList args.toList ds p:=i
 rw[Tryz.params5] at s a
 obtain ⟨v0,U,d0,L,I,q0,l,rfl,rfl,h0,Z⟩:=trodAll_cons s
 obtain ⟨v1,F,d1,R,p1,q1,rfl,rfl,rfl,A,Q⟩:=trodAll_cons Z
 obtain ⟨z,S,d2,α,p2,q2,rfl,rfl,rfl,E,G⟩:=trodAll_cons Q
 obtain ⟨v3,V,d3,M,p3,q3,rfl,rfl,rfl,N,K⟩:=trodAll_cons G
 obtain ⟨rfl,rfl,rfl⟩:=trodAll_nil K
 obtain rfl:args= #[v0,v1,z,v3]:=by cases args;simp_all
 obtain ⟨rfl,rfl⟩:=trodVars_none Y
 have k0:=h0
 have o:∀x∈I,x.block<W.heap.size:=by obtain ⟨m,r⟩:=k0;exact DataW.trod_lt m _ _ _ r
 have J:=Ax.setup_in (a 0 30 v0 rfl rfl) h0
 have k1:=A
 have k:∀x∈p1,x.block<W.heap.size:=by obtain ⟨m,r⟩:=k1;exact DataW.trod_lt m _ _ _ r
 obtain ⟨g,d,c,rfl⟩:=okWide_slice Tryz.underlying31 (a 1 31 v1 rfl rfl)
 have O:=(by obtain ⟨D,T⟩:=A;exact Ax.evs_in (v:= .slice g d c) (by simpa [Value.cells] using T):Ax.InEvs W (.slice g d c))
 obtain ⟨a2,rfl,rfl,rfl,B⟩:=open_int Tryz.underlying3 (a 2 3 z rfl rfl) E
 obtain ⟨a3,rfl,rfl,rfl,u⟩:=open_int Tryz.underlying3 (a 3 3 v3 rfl rfl) N
 clear i b
 refine (walk v0 (.slice g d c) a2 a3 W J O B u).mono λe W' ⟨X,f⟩=>?_
 subst X
 exact ⟨_,rfl,_,_,_,[],_,[],n,trodAll_mk1 (shut_bool Tryz.underlying4 _),(trodAll_cons_mk (Below.trod laidOut (by kernel_rfl) (of_decide_eq_true (by kernel_rfl)) k0 f o) (trodAll_cons_mk (Below.trod laidOut (by kernel_rfl) (of_decide_eq_true (by kernel_rfl)) k1 f k) (trodAll_cons_mk (shut_int Tryz.underlying3 B) (trodAll_cons_mk (shut_int Tryz.underlying3 u) trodAll_mk0)))),rfl,f.frame _,λh=>by cases h⟩
theorem over:Rows.rowGrossRow.holds Tryz.pinned (OpenSpec.ofChange Rows.rowGrossSpec):=
 OpenClaim.holds_of_wide 5 Tryz.f5 rfl rfl rfl rfl rfl rfl rfl ⟨rfl,rfl,rfl,rfl,rfl⟩ rfl rfl rfl rfl rfl (by kernel_rfl) Tryz.func5 (rowGrossJ.rest rowGrossJ.may rowGrossJ.lift rowGrossJ.make)
  (of_decide_eq_true (by kernel_rfl)) (by unfold Func.isWrapper;first | (rw[if_pos (by decide+kernel)];kernel_rfl) | (rw[if_neg (by decide+kernel)];exact ⟨rfl,rfl⟩))
  (λos started H enc _=>lifted os started H enc)
theorem proved:Rows.RowGrossSaid:=over
#print axioms proved
end Go.Proofs.YtfmldcilgbbimaaGreat.rowGross
