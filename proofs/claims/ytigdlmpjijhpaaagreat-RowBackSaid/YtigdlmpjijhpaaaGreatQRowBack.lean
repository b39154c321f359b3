/-
  RowBack: whatever the input, the call returns true and leaves its arguments as they were. No condition.
-/
import Derived.Test.YtigdlmpjijhpaaaGreatQRowCuts
import Derived.Test.YtigdlmpjijhpaaaGreatK42
import Derived.Test.YtigdlmpjijhpaaaGreatK41
import Derived.Test.YtigdlmpjijhpaaaGreatRows
import Derived.Test.YtigdlmpjijhpaaaGreatO0RowBack
import Derived.Test.YtigdlmpjijhpaaaGreatO1RowBack
import Derived.Test.YtigdlmpjijhpaaaGreatO2RowBack
import Derived.WalkKit
import Derived.ProofKit
import Derived.OpenShut
import Derived.ShutString
import Derived.ChangeOld
import Derived.Below
import Derived.Deep.Matrix
set_option linter.all false
namespace Go.Proofs.YtigdlmpjijhpaaaGreat.Ax
open Go Go.Proofs
set_option maxRecDepth 100000
theorem wrong_err{s:Setup}{w wk:Int}(h:kQ s w wk≠0):kQ s w wk=70∨kQ s w wk=80∨kQ s w wk=212:=by
 unfold kQ at h⊢
 split
 ·exact .inl rfl
 ·split
  ·exact .inr (.inl rfl)
  ·split
   ·exact .inr (.inr rfl)
   ·rename_i c a b
    rw[if_neg c,if_neg a,if_neg b] at h
    exact absurd rfl h
theorem told_may{s:Setup}(f:SFit s){l:List Ev}{w wk:Int}(b:l.length<=200):jU (jI s l w wk).1 (jI s l w wk).2=true∨((jI s l w wk).1.err==70)=true∨(((jI s l w wk).1.err==70)=false/\((jI s l w wk).1.err==80)=true)∨(((jI s l w wk).1.err==70)=false/\((jI s l w wk).1.err==80)=false/\((jI s l w wk).1.err==212)=true):=by
 by_cases a:kQ s w wk=0
 ·exact .inl (WJa f a b)
 ·right
  have e:(jI s l w wk).1.err=kQ s w wk:=by
   unfold jI
   rw[if_pos a]
   rfl
  rw[e]
  rcases wrong_err a with h|h|h<;>rw[h]
  ·exact .inl rfl
  ·exact .inr (.inl ⟨rfl,rfl⟩)
  ·exact .inr (.inr ⟨rfl,rfl,rfl⟩)
theorem cWriteUp(h:List Ob){b:List Int}{W:List (RowV × List Flg)}(c:By b)(d:ko b=some W)(g:W.length<4096):ACalls Tryz.prog 15 [.sl 27 (W.map ZH)] h λr h'=>r= .tup [.sl 1 (b.map qN),i64 0]/\h'=h:=by
 obtain⟨j,e⟩:=Qua c d
 obtain⟨f,k⟩:=K7a c d
 have:=Qpa h (.sl 27 (W.map ZH)) (upW W) (by rw[WLa];exact⟨rfl,λ_=>rfl⟩) (λq a=>by
  unfold upW at a
  obtain⟨p,i,rfl⟩:=zx.1 a
  exact⟨⟨rfl,λ_=>rfl⟩,f p i⟩) (by unfold upW;rw[zb];exact g)
 rw[WKa,e] at this
 exact this
set_option maxHeartbeats 8000000 in
theorem cRowBack(h:List Ob)(s:Setup)(a:SA)(k:SIn h s a)(f0:SFit0 s)(x:AV)(l:List Ev)(hx:SlOf h x 11 (l.map evC))(w wk:Int)(y:AV)(W:List RwA)(T:SlOf h y 27 (W.map λq=>jJ q.1 q.2.1))(hW:∀q∈W,SlOf h q.2.1 2 (q.2.2.map jT))(hR:∀q∈W,RawW q)(μ:W.length<=9223372036854775807)(b:List Int)(S:By b):
  ACalls Tryz.prog 3 [jm s a,x,i64 w,i64 wk,y,.sl 1 (b.map qN)] h λr h'=>r=bl true/\h'=h:=by
 have γ:=hx.one
 have ν:=T.one
 refine zl Tryz.f3 [.tmp 12] 134 rfl rfl rfl rfl rfl rfl (by decide) (⟨_,_,⟨rfl,rfl⟩,.refl⟩) λB=>?_
 simp only[go_sem,k.w.one,k.e.one,k.c.one,k.g.one,k.r.one,k.t.one,γ,ν]
 refine zi (YGa _) ?_
 rintro _ j ⟨rfl,rfl⟩
 have O:∀M,SIn (h++M) s a:=λM=>k.app M
 simp only[go_sem,(O _).ones]
 refine zi (YEa _ s a (O _) x l (hx.app _)) ?_
 rintro _ j ⟨rfl,d⟩
 rw[d]
 cases Q:(x5a s && decide (l.length<=60))
 ·simp only[go_sem,qE]
  refine zk ?_<;>(simp only[go_sem]<;>try rfl)
 ·rw[zj,decide_eq_true_eq] at Q
  obtain⟨U,χ⟩:=Q
  have f:=f0.few U
  simp only[go_sem,qE]
  refine zi (YBa _ W μ y (T.app _) (λq n=>(hW q n).app _)) ?_
  rintro _ j ⟨rfl,d⟩
  rw[d]
  clear d j
  cases Q:Xia W
  ·simp only[go_sem,qE]
   refine zk ?_<;>(simp only[go_sem]<;>try rfl)
  ·have D:=Q
   unfold Xia at D
   rw[zj,decide_eq_true_eq,zL] at D
   obtain⟨p,hl⟩:=D
   have p:∀q∈W,q.2.2.length<=300:=λq n=>of_decide_eq_true (p q n)
   cases u:decide ((b.length:Int)>3000)
   ·have u:=of_decide_eq_false u
    have o:decide ((b.length:Int)>3000)=false:=decide_eq_false u
    simp only[go_sem,qE,o,zb]
    refine zi (Qpa _ y W (T.app _) (λq n=>⟨(hW q n).app _,(hR q n).tier,by have:=p q n;omega⟩) (by omega)) ?_
    rintro _ j ⟨rfl,d⟩
    rw[d]
    clear d j
    have K:=K5a (jz W)
    have υ:=K0a (jz W)
    have φ:(jz W).length=W.length:=by unfold jz;rw[zb]
    have C:(jV (jz W)).1.length<1073741824:=by omega
    simp only[go_sem]
    have G:∃X fE,(∀H,ACalls Tryz.prog 16 [.sl 1 ((jV (jz W)).1.map qN)] H λr h'=>r= .tup [X,i64 fE]/\h'=H)/\AV.one X=true/\
      ((okW (jz W)=true/\(jV (jz W)).2=0/\fE=0/\X= .sl 27 ((jz W).map ZH))∨(okW (jz W)=false/\(jV (jz W)).2=200/\(jV (jz W)).1=[])):=by
     cases i:okW (jz W)
     ·have hw:=WW i
      refine⟨.v (.slice none 0 0),200,λH=>cRead_none H _ (b:=(jV (jz W)).1) ⟨rfl,λ_=>rfl⟩ K C (by rw[hw];rfl),rfl,.inr ⟨rfl,by rw[hw],by rw[hw]⟩⟩
     ·obtain⟨b1,b2⟩:=Wxa i hR (by omega)
      refine⟨.sl 27 ((jz W).map ZH),0,λH=>?_,rfl,.inl ⟨rfl,by rw[Jl i],rfl,rfl⟩⟩
      rw[<-b2]
      exact cRead_some H _ (b:=(jV (jz W)).1) ⟨rfl,λ_=>rfl⟩ K C b1
    obtain⟨X,fE,ζ,θ,G⟩:=G
    have E:∃Y P v hE,(∀M,ACalls Tryz.prog 16 [.sl 1 (b.map qN)] (h++M) λr h'=>r= .tup [Y,i64 P]/\h'=h++M)/\AV.one Y=true/\(∀H,ACalls Tryz.prog 15 [Y] H λr h'=>r= .tup [.sl 1 (v.map qN),i64 hE]/\h'=H)/\
      ((P=0/\hE=0/\v=b)∨(P=200/\Y= .v (.slice none 0 0))):=by
     cases i:ko b with
     | none=>
       refine⟨.v (.slice none 0 0),200,_,_,λM=>cRead_none _ _ ⟨rfl,λ_=>rfl⟩ S (by omega) i,rfl,λH=>Qpa H _ [] ⟨rfl,λh=>absurd rfl h⟩ (λq n=>(by cases n)) (by decide),.inr ⟨rfl,rfl⟩⟩
     | some V=>
       have ψ:=(K7a S i).2
       exact⟨.sl 27 (V.map ZH),0,b,0,λM=>cRead_some _ _ ⟨rfl,λ_=>rfl⟩ S (by omega) i,rfl,λH=>cWriteUp H S i (by omega),.inl ⟨rfl,rfl,rfl⟩⟩
    obtain⟨Y,P,v,hE,L,E,η,A⟩:=E
    refine zi (ζ _) ?_
    rintro _ j ⟨rfl,d⟩
    rw[d]
    clear d j
    simp only[go_sem,θ]
    refine zi (L _) ?_
    rintro _ j ⟨rfl,d⟩
    rw[d]
    clear d j
    simp only[go_sem,E]
    refine zi (η _) ?_
    rintro _ j ⟨rfl,d⟩
    rw[d]
    clear d j
    simp only[go_sem,(O _).ones]
    refine zi (Wpa _ s a (O _) f x l w wk (hx.app _) (by omega)) ?_
    rintro _ j ⟨rfl,d⟩
    rw[d]
    clear d j
    have m:=told_may f (l:=l) (w:=w) (wk:=wk) (by omega)
    have z:=Qqa f l w wk (by omega)
    generalize jI s l w wk=V at m z⊢
    obtain⟨R,F⟩:=V
    simp only at m z
    simp only[go_sem,ZD,List.cons_append,List.nil_append]
    have n200:((200:Int)==0)=false:=rfl
    have ο:∀M,SlOf (h++M) y 27 (W.map λq=>jJ q.1 q.2.1):=λM=>T.app M
    have α:∀M,∀q∈W,SlOf (h++M) q.2.1 2 (q.2.2.map jT):=λM q n=>(hW q n).app M
    rcases G with⟨i,J,rfl,rfl⟩|⟨i,J,ξ⟩
    all_goals rw[J]
    rotate_left
    rw[ξ]
    simp only[go_sem,beq_self_eq_true,qE,n200,List.map_nil,List.length_nil]
    rotate_left
    simp only[go_sem,beq_self_eq_true,qE]
    refine zi (WNa _ W y (ο _) (α _) (by omega) (λq n=>by have:=p q n;omega)) ?_
    rintro _ j ⟨rfl,d⟩
    rw[d]
    clear d j
    simp only[go_sem,qE]
    all_goals
     refine zi (Qoa _ R (.sl 2 (F.map jT)) F z.1 ⟨rfl,λ_=>rfl⟩ z.2) ?_
     rintro _ j ⟨rfl,d⟩
     rw[d]
     clear d j
     have I:jU R F=true∨(jU R F=false/\(R.err==70)=true)∨(jU R F=false/\(R.err==70)=false/\(R.err==80)=true)∨(jU R F=false/\(R.err==70)=false/\(R.err==80)=false/\(R.err==212)=true):=by
      cases N:jU R F
      ·rw[N] at m
       rcases m with q|q|q|q
       ·cases q
       ·exact .inr (.inl ⟨rfl,q⟩)
       ·exact .inr (.inr (.inl ⟨rfl,q⟩))
       ·exact .inr (.inr (.inr ⟨rfl,q⟩))
      ·exact .inl rfl
     rcases I with q|⟨N,q⟩|⟨N,q1,Z⟩|⟨N,q1,Z,q3⟩
     all_goals first|rw[q] | rw[N]
     ·simp only[go_sem,qE]
      rcases A with⟨rfl,rfl,rfl⟩|⟨rfl,rfl⟩
      ·simp only[go_sem,beq_self_eq_true,qE,j2a,w7a,bne_self_eq_false]
       refine zk ?_<;>(simp only[go_sem]<;>try rfl)
      ·simp only[go_sem,beq_self_eq_true,qE,n200,List.length_nil]
       refine zk ?_<;>(simp only[go_sem]<;>try rfl)
     ·simp only[go_sem,qE,q]
      rcases A with⟨rfl,rfl,rfl⟩|⟨rfl,rfl⟩
      ·simp only[go_sem,beq_self_eq_true,qE,j2a,w7a,bne_self_eq_false]
       refine zk ?_<;>(simp only[go_sem]<;>try rfl)
      ·simp only[go_sem,beq_self_eq_true,qE,n200,List.length_nil]
       refine zk ?_<;>(simp only[go_sem]<;>try rfl)
     ·simp only[go_sem,qE,q1,Z]
      rcases A with⟨rfl,rfl,rfl⟩|⟨rfl,rfl⟩
      ·simp only[go_sem,beq_self_eq_true,qE,j2a,w7a,bne_self_eq_false]
       refine zk ?_<;>(simp only[go_sem]<;>try rfl)
      ·simp only[go_sem,beq_self_eq_true,qE,n200,List.length_nil]
       refine zk ?_<;>(simp only[go_sem]<;>try rfl)
     ·simp only[go_sem,qE,q1,Z,q3]
      rcases A with⟨rfl,rfl,rfl⟩|⟨rfl,rfl⟩
      ·simp only[go_sem,beq_self_eq_true,qE,j2a,w7a,bne_self_eq_false]
       refine zk ?_<;>(simp only[go_sem]<;>try rfl)
      ·simp only[go_sem,beq_self_eq_true,qE,n200,List.length_nil]
       refine zk ?_<;>(simp only[go_sem]<;>try rfl)
   ·have o:=u
    simp only[go_sem,qE,o,zb]
    refine zk ?_<;>(simp only[go_sem]<;>try rfl)
end Go.Proofs.YtigdlmpjijhpaaaGreat.Ax
namespace Go.Proofs.YtigdlmpjijhpaaaGreat.rowBack
open Go.ChangeShapes Go.WideShapes Go.ChangeAt Go.RowKit
open Go.ChangeMaps (open_string shut_string)
theorem own:ownKnob Tryz.prog.godebug=none:=by kernel_rfl
theorem laidOut:laidOutB Tryz.prog=true:=by kernel_rfl
def IsRow(k:IntKind)(w:World)(a:Option Addr)(len cap:Nat)(b:List Int):Prop:=
 (a=none/\len=0/\cap=0/\b=[])∨
 ∃x,a=some x/\len<=cap/\cap<=maxLen/\b.length=cap/\(∀i,i<b.length->w.cell? (x.add i)=some (.int k (b.getD i 0)))/\∀n∈b,(Lit.int k n).wf=true
theorem walk(c:Value)(g:Value)(a2:Int)(a3:Int)(f:Value)(h:Value)(w:World)(A:Ax.InSet w c)(m:Ax.InEvs w g)(C:(Lit.int .i64 a2).wf=true)(B:(Lit.int .i64 a3).wf=true)(r:Ax.InRws w f)(v:Ax.InBys w h):
  Calls Tryz.prog 3 #[c,g,.int .i64 a2,.int .i64 a3,f,h] w λe w'=>e= .returned (.bool true)/\Below w.heap.size w w':=by
 obtain⟨s,a,t,ks,o⟩:=A
 obtain⟨x,l,k,sl⟩:=m
 obtain⟨y,W,z,u,d,i⟩:=r
 obtain⟨b,p,n⟩:=v
 exact Ax.run_law (Ax.cRowBack [] s a ks o x l sl a2 a3 y W u (λq j=>(d q j).sl) d i b n) ⟨_,_,rfl,t,_,_,rfl,k,_,_,rfl,rfl,_,_,rfl,rfl,_,_,rfl,z,_,_,rfl,p,rfl⟩
set_option maxRecDepth 100000 in
theorem lifted(os:Os)(started:os.Started)(H:Type)(enc:TypeId × Value->H):
  ReturnsInHanded {} Tryz.checked os 3 .any (Rows.rowBackSpec.pre6 enc Tryz.prog Tryz.f3 Rows.rowBackRow.domain false) (Rows.rowBackSpec.post enc Tryz.prog Tryz.f3 false true false false):=by
 refine returnsInHanded_of_change (C:=Tryz.checked) own started (by kernel_rfl) Tryz.func3
  (ChangeSpec.witness6 (enc:=enc) (C:=Tryz.checked) false ⟨#[], #[.agg #[.int .i64 0,.slice none 0 0,.int .i64 0,.int .i64 0,.slice none 0 0,.slice none 0 0,.slice none 0 0,.int .i64 0,.int .i64 0,.int .i64 0,.int .i64 0,.int .i64 0,.int .i64 0,.int .i64 0,.int .i64 0,.int .i64 0,.int .i64 0,.int .i64 0,.slice none 0 0,.int .i64 0,.int .i64 0,.int .i64 0,.slice none 0 0],.slice none 0 0,.int .i64 0,.int .i64 0,.slice none 0 0,.slice none 0 0],[]⟩ 8 (by kernel_rfl) (by kernel_rfl) (by kernel_rfl) (by kernel_rfl)) ?_
 intro W base args ds gs before b J G _
 have a:∀(j:Nat) t v,Tryz.f3.params[j]? =some t->args[j]? =some v->Value.okWide Tryz.prog W .any base t v:=b
 have E:=J
 obtain⟨p,q,y,hV,rfl,ε,η⟩:=J
 have O:DataW.TrodAll enc Tryz.prog W 0 (λ_=>true) true Tryz.f3.params.toList args.toList ds p:=y
 rw[Tryz.params3] at O a
 obtain⟨v0,R,d0,Y,p0,q0,z,rfl,rfl,h0,r0⟩:=trodAll_cons O
 obtain⟨v1,V,d1,δ,p1,q1,rfl,rfl,rfl,N,r1⟩:=trodAll_cons r0
 obtain⟨K,Q,d2,κ,p2,q2,rfl,rfl,rfl,h2,r2⟩:=trodAll_cons r1
 obtain⟨v3,ζ,d3,β,p3,q3,rfl,rfl,rfl,T,r3⟩:=trodAll_cons r2
 obtain⟨v4,ν,d4,S,p4,q4,rfl,rfl,rfl,I,X⟩:=trodAll_cons r3
 obtain⟨v5,τ,d5,σ,p5,q5,rfl,rfl,rfl,P,r5⟩:=trodAll_cons X
 obtain⟨rfl,rfl,rfl⟩:=trodAll_nil r5
 obtain rfl:args= #[v0,v1,K,v3,v4,v5]:=by cases args;simp_all
 obtain⟨rfl,rfl⟩:=trodVars_none hV
 have k0:=h0
 have A:∀x∈p0,x.block<W.heap.size:=by obtain⟨m,g⟩:=k0;exact DataW.trod_lt m _ _ _ g
 have w0:=Ax.setup_in (a 0 30 v0 rfl rfl) h0
 have k1:=N
 have D:∀x∈p1,x.block<W.heap.size:=by obtain⟨m,g⟩:=k1;exact DataW.trod_lt m _ _ _ g
 obtain⟨l,n,r,rfl⟩:=okWide_slice Tryz.underlying31 (a 1 31 v1 rfl rfl)
 have Z:=(by obtain⟨d,w⟩:=N;exact Ax.evs_in (v:= .slice l n r) (by simpa [Value.cells] using w):Ax.InEvs W (.slice l n r))
 obtain⟨a2,rfl,rfl,rfl,M⟩:=open_int Tryz.underlying3 (a 2 3 K rfl rfl) h2
 obtain⟨a3,rfl,rfl,rfl,L⟩:=open_int Tryz.underlying3 (a 3 3 v3 rfl rfl) T
 have k4:=I
 have F:∀x∈p4,x.block<W.heap.size:=by obtain⟨m,g⟩:=k4;exact DataW.trod_lt m _ _ _ g
 obtain⟨o,f,k,rfl⟩:=okWide_slice Tryz.underlying32 (a 4 32 v4 rfl rfl)
 have w4:=(by obtain⟨d,w⟩:=I;exact Ax.rws_in (v:= .slice o f k) (by simpa [Value.cells] using w):Ax.InRws W (.slice o f k))
 have k5:=P
 have B:∀x∈p5,x.block<W.heap.size:=by obtain⟨m,g⟩:=k5;exact DataW.trod_lt m _ _ _ g
 obtain⟨s,i,u,rfl⟩:=okWide_slice Tryz.underlying33 (a 5 33 v5 rfl rfl)
 have w5:=(by obtain⟨d,w⟩:=P;exact Ax.bys_in (v:= .slice s i u) (by simpa [Value.cells] using w):Ax.InBys W (.slice s i u))
 clear y b
 refine(walk v0 (.slice l n r) a2 a3 (.slice o f k) (.slice s i u) W w0 Z M L w4 w5).mono λe W' ⟨U,c⟩=>?_
 subst U
 exact⟨_,rfl,_,_,_,[],_,[],E,trodAll_mk1 (shut_bool Tryz.underlying4 _),(trodAll_cons_mk (Below.trod laidOut (by kernel_rfl) (of_decide_eq_true (by kernel_rfl)) k0 c A) (trodAll_cons_mk (Below.trod laidOut (by kernel_rfl) (of_decide_eq_true (by kernel_rfl)) k1 c D) (trodAll_cons_mk (shut_int Tryz.underlying3 M) (trodAll_cons_mk (shut_int Tryz.underlying3 L) (trodAll_cons_mk (Below.trod laidOut (by kernel_rfl) (of_decide_eq_true (by kernel_rfl)) k4 c F) (trodAll_cons_mk (Below.trod laidOut (by kernel_rfl) (of_decide_eq_true (by kernel_rfl)) k5 c B) trodAll_mk0)))))),rfl,c.frame _,λh=>by cases h⟩
theorem over:Rows.rowBackRow.holds Tryz.pinned (OpenSpec.ofChange Rows.rowBackSpec):=
 OpenClaim.holds_of_wide 3 Tryz.f3 rfl rfl rfl rfl rfl rfl rfl ⟨rfl,rfl,rfl,rfl,rfl⟩ rfl rfl rfl rfl rfl (by kernel_rfl) Tryz.func3 (rowBackJ.rest rowBackJ.may rowBackJ.lift rowBackJ.make)
  (of_decide_eq_true (by kernel_rfl)) (by unfold Func.isWrapper;first|(rw[if_pos (by decide+kernel)];kernel_rfl)|(rw[if_neg (by decide+kernel)];exact⟨rfl,rfl⟩))
  (λos started H enc _=>lifted os started H enc)
theorem proved:Rows.RowBackSaid:=over
#print axioms proved
end Go.Proofs.YtigdlmpjijhpaaaGreat.rowBack
