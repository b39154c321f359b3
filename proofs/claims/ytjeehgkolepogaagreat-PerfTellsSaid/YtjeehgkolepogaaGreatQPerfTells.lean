/-
  PerfTells: whatever the input, the call returns true and leaves its arguments as they were. No condition.
-/
import Derived.Test.YtjeehgkolepogaaGreatK39
import Derived.Test.YtjeehgkolepogaaGreatO0PerfTells
import Derived.Test.YtjeehgkolepogaaGreatO1PerfTells
import Derived.Test.YtjeehgkolepogaaGreatO2PerfTells
import Derived.OpenShut
import Derived.ShutString
import Derived.ChangeOld
import Derived.Deep.Matrix
set_option linter.all false
namespace Go.Proofs.YtjeehgkolepogaaGreat.Ax
open Go Go.Proofs Go.RowKit
set_option maxRecDepth 100000
set_option maxHeartbeats 4000000 in
def cPerfTells(h:List Ob)(s:Setup)(a:SA)(k:SIn h s a)(f0:SFit0 s)(x:AV)(l:List Ev)(i:SlOf h x 11 (l.map evC))(w wk:Int)(p:zL)(m:qp p):
    ACalls Tryz.prog 3 [qE s a,x,i64 w,i64 wk,rat p] h λr h'=>r=bl true/\h'=h:=by
 refine enterQX Tryz.f3 λB=>?_;simp only[go_sem,k.w.one,k.e.one,k.c.one,k.g.one,k.r.one,k.t.one];refine zl (c12 _) ?_;rintro _ d ⟨rfl,rfl⟩;simp only[go_sem,k.w.one,k.e.one,k.c.one,k.g.one,k.r.one,k.t.one];refine zl (c13 _ s a (k.app _) x l (i.app _)) ?_;rintro _ d ⟨rfl,rfl⟩;cases n:qoa 60 s l
 ·simp only[go_sem,qv,Bool.not_false];exact qt
 have b:=n;simp only[qoa,zi,decide_eq_true_eq] at b;obtain⟨o,q⟩:=b;have f:=f0.few o;simp only[go_sem,qv,Bool.not_true,k.w.one,k.e.one,k.c.one,k.g.one,k.r.one,k.t.one];refine zl (c15 _ s a (k.app _) f x l w wk (i.app _) zb) ?_;rintro _ d ⟨rfl,rfl⟩;obtain⟨v,j⟩:∃v,v=y0 s l w wk:=⟨_,rfl⟩;rw[<-j];simp only[go_sem,k.w.one,k.e.one,k.c.one,k.g.one,k.r.one,k.t.one];refine zl (r18Of _ s a (k.app _) f x l w wk (i.app _) zb) ?_;rintro _ d ⟨rfl,rfl⟩;rw[<-j];refine zz ?_;refine zZ [] 0 (oF [0,1,3,2,4,5,6,7,8,9,10,11,12,13,15,14,16,17,18,19,20,21,22,23,24,25,26,27,29,30] ((28,0,[29,30])::oF [31,32,33,34] ([]))) ?_;simp only[go_sem,qv,k.w.one,k.e.one,k.c.one,k.g.one,k.r.one,k.t.one];refine zl (c26 _ s a (k.app _) f p m) ?_;rintro _ d ⟨rfl,rfl⟩;simp only[go_sem,qv,k.w.one,k.e.one,k.c.one,k.g.one,k.r.one,k.t.one];refine qx (r18Tier _ s a (k.app _) f p m) ?_;simp only[go_sem,qv];exact qt
end Go.Proofs.YtjeehgkolepogaaGreat.Ax
namespace Go.Proofs.YtjeehgkolepogaaGreat.perfTells
open Go.ChangeShapes Go.WideShapes Go.ChangeAt Go.RowKit
open Go.ChangeMaps (open_string shut_string)
def own:ownKnob Tryz.prog.godebug=none:=zC
def laidOut:laidOutB Tryz.prog=true:=zC
def IsRow(k:IntKind)(w:World)(a:Option Addr)(len cap:Nat)(b:List Int):Prop:=
 (a=none/\len=0/\cap=0/\b=[])∨
 ∃x,a=some x/\len<=cap/\cap<=maxLen/\b.length=cap/\(∀i,i<b.length->w.cell? (x.add i)=some (.int k (b.getD i 0)))/\∀n∈b,(Lit.int k n).wf=true
def walk(b:Value)(d:Value)(a2:Int)(a3:Int)(c:Value)(w:World)(h:Ax.InSet w b)(i:Ax.InEvs w d)(o:(Lit.int .i64 a2).wf=true)(q:(Lit.int .i64 a3).wf=true)(f:Ax.InRat c):
    Calls Tryz.prog 3 #[b,d,.int .i64 a2,.int .i64 a3,c] w λe w'=>e= .returned (.bool true)/\Below w.heap.size w w':=by
 obtain⟨s,a,k,n,g⟩:=h;obtain⟨x,l,m,sl⟩:=i;obtain⟨p,rfl,j⟩:=f;exact Ax.run_law (Ax.cPerfTells [] s a n g x l sl a2 a3 p j) ⟨_,_,rfl,k,_,_,rfl,m,_,_,rfl,rfl,_,_,rfl,rfl,_,_,rfl,Ax.InRat.ar,rfl⟩
set_option maxRecDepth 100000 in
def lifted(os:Os)(started:os.Started)(H:Type)(enc:TypeId × Value->H):
    ReturnsInHanded {} Tryz.checked os 3 .any (Rows.perfTellsSpec.pre6 enc Tryz.prog Tryz.f3 Rows.perfTellsRow.domain false) (Rows.perfTellsSpec.post enc Tryz.prog Tryz.f3 false true false false):=by
 refine returnsInHanded_of_change (C:=Tryz.checked) own started zC Tryz.func3
  (ChangeSpec.witness6 (enc:=enc) (C:=Tryz.checked) false ⟨#[], #[.agg #[.int .i64 0,.slice none 0 0,.int .i64 0,.int .i64 0,.slice none 0 0,.slice none 0 0,.slice none 0 0,.int .i64 0,.int .i64 0,.int .i64 0,.int .i64 0,.int .i64 0,.int .i64 0,.int .i64 0,.int .i64 0,.int .i64 0,.int .i64 0,.int .i64 0,.slice none 0 0,.int .i64 0,.int .i64 0,.int .i64 0,.slice none 0 0],.slice none 0 0,.int .i64 0,.int .i64 0,.agg #[.int .i64 0,.int .i64 0]],[]⟩ 8 zC zC zC zC) ?_
 intro W base args ds gs before b w F _;have a:∀(j:Nat) t v,Tryz.f3.params[j]? =some t->args[j]? =some v->Value.okWide Tryz.prog W .any base t v:=b;have s:=w;obtain⟨p,q,k,L,rfl,I,Y⟩:=w;have E:DataW.TrodAll enc Tryz.prog W 0 (λ_=>true) true Tryz.f3.params.toList args.toList ds p:=k;rw[Tryz.params3] at E a;obtain⟨v0,T,d0,β,p0,q0,r,rfl,rfl,h0,G⟩:=trodAll_cons E;obtain⟨v1,R,d1,α,p1,q1,rfl,rfl,rfl,A,U⟩:=trodAll_cons G;obtain⟨z,Z,d2,J,p2,q2,rfl,rfl,rfl,X,M⟩:=trodAll_cons U;obtain⟨v3,η,d3,V,p3,q3,rfl,rfl,rfl,Q,r3⟩:=trodAll_cons M;obtain⟨v4,ε,d4,θ,O,q4,rfl,rfl,rfl,y,S⟩:=trodAll_cons r3;obtain⟨rfl,rfl,rfl⟩:=trodAll_nil S;obtain rfl:args= #[v0,v1,z,v3,v4]:=by cases args;simp_all
 obtain⟨rfl,rfl⟩:=trodVars_none L;have k0:=h0;have o:∀x∈p0,x.block<W.heap.size:=by obtain⟨m,i⟩:=k0;exact DataW.trod_lt m _ _ _ i
 have P:=Ax.setup_in (a 0 30 v0 rfl rfl) h0;have k1:=A;have l:∀x∈p1,x.block<W.heap.size:=by obtain⟨m,i⟩:=k1;exact DataW.trod_lt m _ _ _ i
 obtain⟨f,g,d,rfl⟩:=okWide_slice Tryz.underlying31 (a 1 31 v1 rfl rfl);have K:=(by obtain⟨B,hf⟩:=A;exact Ax.evs_in (v:= .slice f g d) (by simpa [Value.cells] using hf):Ax.InEvs W (.slice f g d));obtain⟨a2,rfl,rfl,rfl,u⟩:=open_int Tryz.underlying3 (a 2 3 z rfl rfl) X;obtain⟨a3,rfl,rfl,rfl,D⟩:=open_int Tryz.underlying3 (a 3 3 v3 rfl rfl) Q;have k4:=y;have n:∀x∈O,x.block<W.heap.size:=by obtain⟨m,i⟩:=k4;exact DataW.trod_lt m _ _ _ i
 have w4:=Ax.ratV_in (a 4 24 v4 rfl rfl) y;clear k b;refine(walk v0 (.slice f g d) a2 a3 v4 W P K u D w4).mono λe W' ⟨N,c⟩=>?_;subst N;exact⟨_,rfl,_,_,_,[],_,[],s,trodAll_mk1 (shut_bool Tryz.underlying4 _),(trodAll_cons_mk (Below.trod laidOut zC (of_decide_eq_true zC) k0 c o) (trodAll_cons_mk (Below.trod laidOut zC (of_decide_eq_true zC) k1 c l) (trodAll_cons_mk (shut_int Tryz.underlying3 u) (trodAll_cons_mk (shut_int Tryz.underlying3 D) (trodAll_cons_mk (Below.trod laidOut zC (of_decide_eq_true zC) k4 c n) trodAll_mk0))))),rfl,c.frame _,λh=>by cases h⟩
def over:Rows.perfTellsRow.holds Tryz.pinned (OpenSpec.ofChange Rows.perfTellsSpec):=
 OpenClaim.holds_of_wide 3 Tryz.f3 rfl rfl rfl rfl rfl rfl rfl ⟨rfl,rfl,rfl,rfl,rfl⟩ rfl rfl rfl rfl rfl zC Tryz.func3 (perfTellsJ.rest perfTellsJ.may perfTellsJ.lift perfTellsJ.make)
  (of_decide_eq_true zC) (by unfold Func.isWrapper;first|(rw[if_pos (by decide+kernel)];kernel_rfl)|(rw[if_neg (by decide+kernel)];exact⟨rfl,rfl⟩))
  (λos started H enc _=>lifted os started H enc)
def proved:Rows.PerfTellsSaid:=over
#print axioms proved
end Go.Proofs.YtjeehgkolepogaaGreat.perfTells
