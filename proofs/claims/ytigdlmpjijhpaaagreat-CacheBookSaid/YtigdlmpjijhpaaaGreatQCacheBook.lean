/-
  CacheBook: whatever the input, the call returns true and leaves its arguments as they were. No condition.
-/
import Derived.Test.YtigdlmpjijhpaaaGreatK48
import Derived.Test.YtigdlmpjijhpaaaGreatRows
import Derived.Test.YtigdlmpjijhpaaaGreatO0CacheBook
import Derived.Test.YtigdlmpjijhpaaaGreatO1CacheBook
import Derived.Test.YtigdlmpjijhpaaaGreatO2CacheBook
import Derived.WalkKit
import Derived.ProofKit
import Derived.OpenShut
import Derived.ShutString
import Derived.ChangeOld
import Derived.Below
import Derived.Deep.Matrix
set_option linter.all false
namespace Go.Proofs.YtigdlmpjijhpaaaGreat.Ax
open Go Go.Proofs
set_option maxRecDepth 100000
set_option maxHeartbeats 4000000 in
theorem cCacheBook(h:List Ob)(s:Setup)(a:SA)(k:SIn h s a)(f0:SFit0 s)(x:AV)(l:List Cm)(q:SlOf h x 16 (l.map ym)):
  ACalls Tryz.prog 11 [je s a,x] h λr h'=>r=bl true/\h'=h:=by
 refine zi Tryz.f11 [.tmp 4] 73 rfl rfl rfl rfl rfl rfl (by decide) (⟨_,_,⟨rfl,rfl⟩,.refl⟩) λB=>?_
 simp only[go_sem,k.w.one,k.e.one,k.c.one,k.g.one,k.r.one,k.t.one]
 refine zg (kBb _) ?_
 rintro _ j ⟨rfl,rfl⟩
 have d:∀M,SIn (h++M) s a:=λM=>k.app M
 simp only[go_sem,(d _).ones]
 refine zg (YQa _ s a (d _) f0.fit) ?_
 rintro _ j ⟨rfl,rfl⟩
 have o:=(yI (h:=h) s).ones
 cases i:z6 s
 ·simp only[go_sem,Yga,zA,jF,(d _).ones]
  refine zg (xfb _ s a (d _) f0.fit) ?_
  rintro _ j ⟨rfl,b⟩
  rw[b,i]
  simp only[go_sem,xeb,zA,jF,(d _).ones]
  refine zg (kzb _ s a (d _) x l (q.app _)) ?_
  rintro _ j ⟨rfl,b⟩
  rw[b]
  cases y:(zoa s && decide (l.length<=40))
  ·simp only[go_sem,qt,beq_self_eq_true]
   refine zn ?_<;>(simp only[go_sem]<;>try rfl)
  ·simp only[go_sem,qt,kDb,beq_self_eq_true]
   refine zn ?_<;>(simp only[go_sem]<;>try rfl)
 ·simp only[go_sem,o,(d _).ones]
  refine zg (xfb _ s a (d _) f0.fit) ?_
  rintro _ j ⟨rfl,b⟩
  rw[b,i]
  simp only[go_sem,o,(d _).ones]
  refine zg (kzb _ s a (d _) x l (q.app _)) ?_
  rintro _ j ⟨rfl,b⟩
  rw[b]
  cases y:(zoa s && decide (l.length<=40))
  ·simp only[go_sem,qt,beq_self_eq_true]
   refine zn ?_<;>(simp only[go_sem]<;>try rfl)
  ·rw[zq,decide_eq_true_eq] at y
   obtain⟨n,D⟩:=y
   have f:=f0.few n
   have m:=qtb n
   have v:=xgb n
   simp only[go_sem,qt,o,bne_self_eq_false]
   refine zg (xyb _ s f i z0a (z1a s) x l (q.app _) (by omega) m) ?_
   rintro _ j ⟨rfl,b⟩
   rw[b]
   clear b
   simp only[go_sem,o]
   refine zg (kCb _ s f Kx (QPa s) x l (q.app _) (by omega) m) ?_
   rintro _ j ⟨rfl,b⟩
   rw[b]
   clear b
   obtain⟨A,u⟩:=Yca i f l (z1a s)
   have z:=k5a l (QPa s)
   have p:=KOa f m l (QPa s)
   have C:(vC s Kx l).2.length=l.length:=k6a l
   have A:(xU s z0a l).1.bk=(vC s Kx l).1:=A
   have u:(xU s z0a l).2.1=(vC s Kx l).2:=u
   rw[A,u]
   simp only[go_sem,o,qt]
   refine zg (kAb _ (vC s Kx l).2 _ ⟨rfl,λ_=>rfl⟩ (by omega) p) ?_
   rintro _ j ⟨rfl,b⟩
   rw[b]
   clear b
   simp only[go_sem,o,qt]
   refine zg (qcb _ s v _ z) ?_
   rintro _ j ⟨rfl,b⟩
   rw[b]
   clear b
   simp only[go_sem,qt]
   refine zn ?_<;>(simp only[go_sem]<;>try rfl)
end Go.Proofs.YtigdlmpjijhpaaaGreat.Ax
namespace Go.Proofs.YtigdlmpjijhpaaaGreat.cacheBook
open Go.ChangeShapes Go.WideShapes Go.ChangeAt Go.RowKit
open Go.ChangeMaps (open_string shut_string)
theorem own:ownKnob Tryz.prog.godebug=none:=by kernel_rfl
theorem laidOut:laidOutB Tryz.prog=true:=by kernel_rfl
def IsRow(k:IntKind)(w:World)(a:Option Addr)(len cap:Nat)(b:List Int):Prop:=
 (a=none/\len=0/\cap=0/\b=[])∨
 ∃x,a=some x/\len<=cap/\cap<=maxLen/\b.length=cap/\(∀i,i<b.length->w.cell? (x.add i)=some (.int k (b.getD i 0)))/\∀n∈b,(Lit.int k n).wf=true
theorem walk(c:Value)(b:Value)(w:World)(i:Ax.InSet w c)(g:Ax.InCms w b):
  Calls Tryz.prog 11 #[c,b] w λe w'=>e= .returned (.bool true)/\Below w.heap.size w w':=by
 obtain⟨s,a,h,ks,d⟩:=i
 obtain⟨x,l,f,sl⟩:=g
 exact Ax.run_law (Ax.cCacheBook [] s a ks d x l sl) ⟨_,_,rfl,h,_,_,rfl,f,rfl⟩
set_option maxRecDepth 100000 in
theorem lifted(os:Os)(started:os.Started)(H:Type)(enc:TypeId × Value->H):
  ReturnsInHanded {} Tryz.checked os 11 .any (Rows.cacheBookSpec.pre6 enc Tryz.prog Tryz.f11 Rows.cacheBookRow.domain false) (Rows.cacheBookSpec.post enc Tryz.prog Tryz.f11 false true false false):=by
 refine returnsInHanded_of_change (C:=Tryz.checked) own started (by kernel_rfl) Tryz.func11
  (ChangeSpec.witness6 (enc:=enc) (C:=Tryz.checked) false ⟨#[], #[.agg #[.int .i64 0,.slice none 0 0,.int .i64 0,.int .i64 0,.slice none 0 0,.slice none 0 0,.slice none 0 0,.int .i64 0,.int .i64 0,.int .i64 0,.int .i64 0,.int .i64 0,.int .i64 0,.int .i64 0,.int .i64 0,.int .i64 0,.int .i64 0,.int .i64 0,.slice none 0 0,.int .i64 0,.int .i64 0,.int .i64 0,.slice none 0 0],.slice none 0 0],[]⟩ 8 (by kernel_rfl) (by kernel_rfl) (by kernel_rfl) (by kernel_rfl)) ?_
 intro W base args ds gs before b y w _
 have a:∀(j:Nat) t v,Tryz.f11.params[j]? =some t->args[j]? =some v->Value.okWide Tryz.prog W .any base t v:=b
 have l:=y
 obtain⟨p,q,i,L,rfl,B,I⟩:=y
 have z:DataW.TrodAll enc Tryz.prog W 0 (λ_=>true) true Tryz.f11.params.toList args.toList ds p:=i
 rw[Tryz.params11] at z a
 obtain⟨v0,G,Q,D,N,T,r,rfl,rfl,h0,J⟩:=trodAll_cons z
 obtain⟨v1,O,S,A,p1,R,rfl,rfl,rfl,s,P⟩:=trodAll_cons J
 obtain⟨rfl,rfl,rfl⟩:=trodAll_nil P
 obtain rfl:args= #[v0,v1]:=by cases args;simp_all
 obtain⟨rfl,rfl⟩:=trodVars_none L
 have k0:=h0
 have n:∀x∈N,x.block<W.heap.size:=by obtain⟨m,k⟩:=k0;exact DataW.trod_lt m _ _ _ k
 have E:=Ax.setup_in (a 0 30 v0 rfl rfl) h0
 have k1:=s
 have o:∀x∈p1,x.block<W.heap.size:=by obtain⟨m,k⟩:=k1;exact DataW.trod_lt m _ _ _ k
 obtain⟨c,d,g,rfl⟩:=okWide_slice Tryz.underlying61 (a 1 61 v1 rfl rfl)
 have K:=(by obtain⟨u,M⟩:=s;exact Ax.cms_in (v:= .slice c d g) (by simpa [Value.cells] using M):Ax.InCms W (.slice c d g))
 clear i b
 refine(walk v0 (.slice c d g) W E K).mono λe U ⟨F,f⟩=>?_
 subst F
 exact⟨_,rfl,_,_,_,[],_,[],l,trodAll_mk1 (shut_bool Tryz.underlying4 _),(trodAll_cons_mk (Below.trod laidOut (by kernel_rfl) (of_decide_eq_true (by kernel_rfl)) k0 f n) (trodAll_cons_mk (Below.trod laidOut (by kernel_rfl) (of_decide_eq_true (by kernel_rfl)) k1 f o) trodAll_mk0)),rfl,f.frame _,λh=>by cases h⟩
theorem over:Rows.cacheBookRow.holds Tryz.pinned (OpenSpec.ofChange Rows.cacheBookSpec):=
 OpenClaim.holds_of_wide 11 Tryz.f11 rfl rfl rfl rfl rfl rfl rfl ⟨rfl,rfl,rfl,rfl,rfl⟩ rfl rfl rfl rfl rfl (by kernel_rfl) Tryz.func11 (cacheBookJ.rest cacheBookJ.may cacheBookJ.lift cacheBookJ.make)
  (of_decide_eq_true (by kernel_rfl)) (by unfold Func.isWrapper;first|(rw[if_pos (by decide+kernel)];kernel_rfl)|(rw[if_neg (by decide+kernel)];exact⟨rfl,rfl⟩))
  (λos started H enc _=>lifted os started H enc)
theorem proved:Rows.CacheBookSaid:=over
#print axioms proved
end Go.Proofs.YtigdlmpjijhpaaaGreat.cacheBook
