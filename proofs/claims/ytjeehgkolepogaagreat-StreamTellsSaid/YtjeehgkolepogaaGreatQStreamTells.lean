/-
  StreamTells: whatever the input, the call returns true and leaves its arguments as they were. No condition.
-/
import Derived.Test.YtjeehgkolepogaaGreatK38
import Derived.Test.YtjeehgkolepogaaGreatO0StreamTells
import Derived.Test.YtjeehgkolepogaaGreatO1StreamTells
import Derived.Test.YtjeehgkolepogaaGreatO2StreamTells
import Derived.OpenShut
import Derived.ShutString
import Derived.ChangeOld
import Derived.Deep.Matrix
set_option linter.all false
namespace Go.Proofs.YtjeehgkolepogaaGreat.Ax
open Go Go.Proofs Go.RowKit
set_option maxRecDepth 100000
def stream_lenT{s:Setup}{l:List Ev}{w:Int}(e:l.length<=100):(qq s l w).1.length<1048576/\(qq s l w).2.length<1048576:=by
 have c:=jl l;have b:szT (goP s w (zS l))<=szT ⟨none,[],[]⟩+3*(zS l).length:=jOa (zS l);have a:szT ⟨none,[],[]⟩=0:=rfl;have d:=JZ (s:=s) (t:=goP s w (zS l)) (at_:=32054400);unfold qq;split
 ·simp only[szT] at d b a⊢;omega
 ·simp
set_option maxHeartbeats 4000000 in
def cStreamTells(h:List Ob)(s:Setup)(a:SA)(k:SIn h s a)(f0:SFit0 s)(x:AV)(l:List Ev)(u:SlOf h x 11 (l.map evC))(w:Int)(i:AV)(segs:List Seg)(j:SlOf h i 5 (segs.map qU))(m:Int):
    ACalls Tryz.prog 4 [qE s a,x,i64 w,i,i64 m] h λr h'=>r=bl true/\h'=h:=by
 refine enterQX Tryz.f4 λB=>?_;simp only[go_sem,k.w.one,k.e.one,k.c.one,k.g.one,k.r.one,k.t.one];refine zl (c28 _) ?_;rintro _ b ⟨rfl,rfl⟩;have k1:=k.app [.box 30 (zN s a)];simp only[go_sem,k1.w.one,k1.e.one,k1.c.one,k1.g.one,k1.r.one,k1.t.one];refine zl (c29 _ s a k1 x l (u.app _)) ?_;rintro _ b ⟨rfl,rfl⟩;have q:∀M,zI (h++M) i=some (segs.map qU):=λM=>(j.app M).rows;refine zz ?_;cases n:qoa 100 s l
 ·simp only[go_sem,n,qv,Bool.not_false];exact qt
 simp only[go_sem,n,qv,Bool.not_true,q,zc];refine ways (λo=>?_) (λo=>?_)
 ·refine zz ?_;exact qt
 have o:=of_decide_eq_false o;simp only[qoa,zi,decide_eq_true_eq] at n;obtain⟨A,z⟩:=n;have f:=f0.few A;have d:segs.length<1048576:=zb;simp only[go_sem,k1.w.one,k1.e.one,k1.c.one,k1.g.one,k1.r.one,k1.t.one];refine zl (QW ze ze (yB _) (ZR _) (c21 _ s a k1 f x l w (u.app _) zb)) ?_;rintro _ b ⟨rfl,rfl⟩;simp only[go_sem,k1.w.one,k1.e.one,k1.c.one,k1.g.one,k1.r.one,k1.t.one];refine zl (r12Of _ s a k1 f x l w (u.app _) zb) ?_;rintro _ b ⟨rfl,rfl⟩;refine zz ?_;have y:=stream_lenT (s:=s) (w:=w) z;refine zl (eqSegs _ _ zb) ?_;rintro _ b ⟨rfl,rfl⟩;refine zz ?_;refine zl (eqFlgs _ _ zb) ?_;rintro _ b ⟨rfl,rfl⟩;refine zz ?_;refine zl (wv ze (yw _) (c31 _ i segs (j.app _) d)) ?_;rintro _ b ⟨rfl,rfl⟩;refine zz ?_;refine zl (r12Clock _ i segs (j.app _) d) ?_;rintro _ b ⟨rfl,rfl⟩;refine zz ?_;have p:(yY segs).length<1099511627776:=Nat.lt_of_le_of_lt (qca _) (by rw[zc];omega);have v:(X8 segs m).length<1099511627776:=Nat.lt_of_le_of_lt (qca _) (by rw[zc];exact Nat.lt_of_le_of_lt (qj _ _) zb);refine zl (r3Same _ _ _ (yY segs) ⟨rfl,λ_=>rfl⟩ ⟨rfl,λ_=>rfl⟩ p) ?_;rintro _ b ⟨rfl,rfl⟩;refine zz ?_;refine zl (wv ze (yw _) (c32 _ i segs m (j.app _) d)) ?_;rintro _ b ⟨rfl,rfl⟩;refine zz ?_;refine zl (r12Only _ i segs m (j.app _) d) ?_;rintro _ b ⟨rfl,rfl⟩;refine zz ?_;refine qI (r3Same _ _ _ (X8 segs m) ⟨rfl,λ_=>rfl⟩ ⟨rfl,λ_=>rfl⟩ v) ?_;exact qt
end Go.Proofs.YtjeehgkolepogaaGreat.Ax
namespace Go.Proofs.YtjeehgkolepogaaGreat.streamTells
open Go.ChangeShapes Go.WideShapes Go.ChangeAt Go.RowKit
open Go.ChangeMaps (open_string shut_string)
def own:ownKnob Tryz.prog.godebug=none:=zC
def laidOut:laidOutB Tryz.prog=true:=zC
def IsRow(k:IntKind)(w:World)(a:Option Addr)(len cap:Nat)(b:List Int):Prop:=
 (a=none/\len=0/\cap=0/\b=[])∨
 ∃x,a=some x/\len<=cap/\cap<=maxLen/\b.length=cap/\(∀i,i<b.length->w.cell? (x.add i)=some (.int k (b.getD i 0)))/\∀n∈b,(Lit.int k n).wf=true
def walk(d:Value)(g:Value)(a2:Int)(f:Value)(a4:Int)(w:World)(k:Ax.InSet w d)(m:Ax.InEvs w g)(q:(Lit.int .i64 a2).wf=true)(h:Ax.InSegs w f)(r:(Lit.int .i64 a4).wf=true):
    Calls Tryz.prog 4 #[d,g,.int .i64 a2,f,.int .i64 a4] w λe w'=>e= .returned (.bool true)/\Below w.heap.size w w':=by
 obtain⟨s,a,n,p,j⟩:=k;obtain⟨x,l,o,sl⟩:=m;obtain⟨i,segs,b,c⟩:=h;exact Ax.run_law (Ax.cStreamTells [] s a p j x l sl a2 i segs c a4) ⟨_,_,rfl,n,_,_,rfl,o,_,_,rfl,rfl,_,_,rfl,b,_,_,rfl,rfl,rfl⟩
set_option maxRecDepth 100000 in
def lifted(os:Os)(started:os.Started)(H:Type)(enc:TypeId × Value->H):
    ReturnsInHanded {} Tryz.checked os 4 .any (Rows.streamTellsSpec.pre6 enc Tryz.prog Tryz.f4 Rows.streamTellsRow.domain false) (Rows.streamTellsSpec.post enc Tryz.prog Tryz.f4 false true false false):=by
 refine returnsInHanded_of_change (C:=Tryz.checked) own started zC Tryz.func4
  (ChangeSpec.witness6 (enc:=enc) (C:=Tryz.checked) false ⟨#[], #[.agg #[.int .i64 0,.slice none 0 0,.int .i64 0,.int .i64 0,.slice none 0 0,.slice none 0 0,.slice none 0 0,.int .i64 0,.int .i64 0,.int .i64 0,.int .i64 0,.int .i64 0,.int .i64 0,.int .i64 0,.int .i64 0,.int .i64 0,.int .i64 0,.int .i64 0,.slice none 0 0,.int .i64 0,.int .i64 0,.int .i64 0,.slice none 0 0],.slice none 0 0,.int .i64 0,.slice none 0 0,.int .i64 0],[]⟩ 8 zC zC zC zC) ?_
 intro W base args ds gs before b D K _;have a:∀(j:Nat) t v,Tryz.f4.params[j]? =some t->args[j]? =some v->Value.okWide Tryz.prog W .any base t v:=b;have A:=D;obtain⟨p,q,o,P,rfl,M,γ⟩:=D;have J:DataW.TrodAll enc Tryz.prog W 0 (λ_=>true) true Tryz.f4.params.toList args.toList ds p:=o;rw[Tryz.params4] at J a;obtain⟨v0,Y,d0,η,p0,q0,y,rfl,rfl,h0,L⟩:=trodAll_cons J;obtain⟨v1,V,d1,ζ,p1,q1,rfl,rfl,rfl,G,Z⟩:=trodAll_cons L;obtain⟨F,δ,d2,N,p2,q2,rfl,rfl,rfl,h2,Q⟩:=trodAll_cons Z;obtain⟨v3,κ,d3,α,U,q3,rfl,rfl,rfl,E,r3⟩:=trodAll_cons Q;obtain⟨v4,θ,d4,μ,p4,q4,rfl,rfl,rfl,T,X⟩:=trodAll_cons r3;obtain⟨rfl,rfl,rfl⟩:=trodAll_nil X;obtain rfl:args= #[v0,v1,F,v3,v4]:=by cases args;simp_all
 obtain⟨rfl,rfl⟩:=trodVars_none P;have k0:=h0;have w:∀x∈p0,x.block<W.heap.size:=by obtain⟨m,n⟩:=k0;exact DataW.trod_lt m _ _ _ n
 have S:=Ax.setup_in (a 0 30 v0 rfl rfl) h0;have k1:=G;have s:∀x∈p1,x.block<W.heap.size:=by obtain⟨m,n⟩:=k1;exact DataW.trod_lt m _ _ _ n
 obtain⟨g,k,d,rfl⟩:=okWide_slice Tryz.underlying31 (a 1 31 v1 rfl rfl);have O:=(by obtain⟨r,z⟩:=G;exact Ax.evs_in (v:= .slice g k d) (by simpa [Value.cells] using z):Ax.InEvs W (.slice g k d));obtain⟨a2,rfl,rfl,rfl,B⟩:=open_int Tryz.underlying3 (a 2 3 F rfl rfl) h2;have k3:=E;have u:∀x∈U,x.block<W.heap.size:=by obtain⟨m,n⟩:=k3;exact DataW.trod_lt m _ _ _ n
 obtain⟨i,l,f,rfl⟩:=okWide_slice Tryz.underlying42 (a 3 42 v3 rfl rfl);have w3:=(by obtain⟨r,z⟩:=E;exact Ax.segs_in (v:= .slice i l f) (by simpa [Value.cells] using z):Ax.InSegs W (.slice i l f));obtain⟨a4,rfl,rfl,rfl,I⟩:=open_int Tryz.underlying3 (a 4 3 v4 rfl rfl) T;clear o b;refine(walk v0 (.slice g k d) a2 (.slice i l f) a4 W S O B w3 I).mono λe W' ⟨R,c⟩=>?_;subst R;exact⟨_,rfl,_,_,_,[],_,[],A,trodAll_mk1 (shut_bool Tryz.underlying4 _),(trodAll_cons_mk (Below.trod laidOut zC (of_decide_eq_true zC) k0 c w) (trodAll_cons_mk (Below.trod laidOut zC (of_decide_eq_true zC) k1 c s) (trodAll_cons_mk (shut_int Tryz.underlying3 B) (trodAll_cons_mk (Below.trod laidOut zC (of_decide_eq_true zC) k3 c u) (trodAll_cons_mk (shut_int Tryz.underlying3 I) trodAll_mk0))))),rfl,c.frame _,λh=>by cases h⟩
def over:Rows.streamTellsRow.holds Tryz.pinned (OpenSpec.ofChange Rows.streamTellsSpec):=
 OpenClaim.holds_of_wide 4 Tryz.f4 rfl rfl rfl rfl rfl rfl rfl ⟨rfl,rfl,rfl,rfl,rfl⟩ rfl rfl rfl rfl rfl zC Tryz.func4 (streamTellsJ.rest streamTellsJ.may streamTellsJ.lift streamTellsJ.make)
  (of_decide_eq_true zC) (by unfold Func.isWrapper;first|(rw[if_pos (by decide+kernel)];kernel_rfl)|(rw[if_neg (by decide+kernel)];exact⟨rfl,rfl⟩))
  (λos started H enc _=>lifted os started H enc)
def proved:Rows.StreamTellsSaid:=over
#print axioms proved
end Go.Proofs.YtjeehgkolepogaaGreat.streamTells
