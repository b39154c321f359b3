/-
  RowCuts: whatever the input, the call returns true and leaves its arguments as they were. No condition.
-/
import Derived.Test.YtigdlmpjijhpaaaGreatK41
import Derived.Test.YtigdlmpjijhpaaaGreatK42
import Derived.Test.YtigdlmpjijhpaaaGreatRows
import Derived.Test.YtigdlmpjijhpaaaGreatO0RowCuts
import Derived.Test.YtigdlmpjijhpaaaGreatO1RowCuts
import Derived.Test.YtigdlmpjijhpaaaGreatO2RowCuts
import Derived.WalkKit
import Derived.ProofKit
import Derived.OpenShut
import Derived.ShutString
import Derived.ChangeOld
import Derived.Below
import Derived.Deep.Matrix
set_option linter.all false
namespace Go.Proofs.YtigdlmpjijhpaaaGreat.Ax
open Go Go.Proofs
set_option maxRecDepth 100000
theorem ne200:((200:Int) != 0)=true:=rfl
theorem lit_u16{c:Int}(h:(Lit.int .u16 c).wf=true):0<=c/\c<65536:=by
 simp[Lit.wf,IntKind.min,IntKind.max,IntKind.bits,IntKind.signed] at h
 omega
theorem cRead_some(h:List Ob)(x:AV){b:List Int}{W:List (RowV × List Flg)}(a:SlOf h x 1 (b.map qN))(c:By b)(d:b.length<1073741824)(e:ko b=some W):ACalls Tryz.prog 16 [x] h λr h'=>r= .tup [.sl 27 (W.map ZH),i64 0]/\h'=h:=by
 have:=YFa h x b a c d
 unfold vwa at this
 rw[e] at this
 exact this
theorem cRead_none(h:List Ob)(x:AV){b:List Int}(a:SlOf h x 1 (b.map qN))(c:By b)(d:b.length<1073741824)(e:ko b=none):ACalls Tryz.prog 16 [x] h λr h'=>r= .tup [.v (.slice none 0 0),i64 200]/\h'=h:=by
 have:=YFa h x b a c d
 unfold vwa at this
 rw[e] at this
 exact this
set_option maxHeartbeats 4000000 in
theorem cRowCuts(h:List Ob)(x:AV)(W:List RwA)(H:SlOf h x 27 (W.map λq=>jJ q.1 q.2.1))(O:∀q∈W,SlOf h q.2.1 2 (q.2.2.map jT))(L:∀q∈W,RawW q)(K:W.length<=9223372036854775807)(c:Int)(j:0<=c/\c<65536)(more:Int)(hm:more<=9223372036854775807):
  ACalls Tryz.prog 5 [x,.v (.int .u16 c),i64 more] h λr h'=>r=bl true/\h'=h:=by
 have p:=H.one
 refine zl Tryz.f5 [.tmp 6] 78 rfl rfl rfl rfl rfl rfl (by decide) (⟨_,_,⟨rfl,rfl⟩,.refl⟩) λB=>?_
 simp only[go_sem,p]
 refine zi (YGa _) ?_
 rintro _ l ⟨rfl,rfl⟩
 simp only[go_sem]
 refine zi (YBa _ W K x H O) ?_
 rintro _ l ⟨rfl,A⟩
 rw[A]
 clear A l
 cases Z:Xia W
 ·simp only[go_sem,qE]
  refine zk ?_<;>(simp only[go_sem]<;>try rfl)
 ·have m:=Z
  unfold Xia at m
  rw[zj,decide_eq_true_eq,zL] at m
  obtain⟨s,hl⟩:=m
  have s:∀q∈W,q.2.2.length<=300:=λq y=>of_decide_eq_true (s q y)
  cases f:decide (more<0)
  ·have J:=of_decide_eq_false f
   simp only[go_sem,qE,f]
   refine zi (Qpa _ x W H (λq y=>⟨O q y,(L q y).tier,by have:=s q y;omega⟩) (by omega)) ?_
   rintro _ l ⟨rfl,A⟩
   rw[A]
   clear A l
   cases g:okW (jz W)
   ·have Y:=WW g
    rw[Y]
    simp only[go_sem,qE,p,ne200,beq_self_eq_true]
    refine zk ?_<;>(simp only[go_sem]<;>try rfl)
   ·have a:=(Wxa g L (by omega)).1
    have d:=K5a (jz W)
    have G:=K0a (jz W)
    have C:=K6a g
    have X:(jz W).length=W.length:=by unfold jz;rw[zb]
    have V:(jV (jz W)).2=0:=by rw[Jl g]
    obtain⟨b,R⟩:∃b,b=(jV (jz W)).1:=⟨_,rfl⟩
    rw[V]
    rw[<-R] at a d G C⊢
    clear R
    obtain⟨n,S⟩:∃n,n=c.toNat % b.length:=⟨_,rfl⟩
    have U:n<b.length:=by rw[S];exact Nat.mod_lt _ C
    have F:IntKind.wrap .i64 c=c:=qb (by unfold Fit;omega)
    have k:¬ ((b.length:Int)=0):=by omega
    have E:Int.tmod c (b.length:Int)=(n:Int):=by
     rw[Int.tmod_eq_emod_of_nonneg j.1,S,Int.natCast_emod,xU j.1]
    have D:((n:Int)<=b.length):=by omega
    have u:((b.length:Int)==0)=false:=by rw[beq_eq_false_iff_ne];exact k
    simp only[go_sem,qE,p,F,k,E,u,bne_self_eq_false,zb]
    have β:∀M,SlOf (l++M) (.sl 1 (b.map qN)) 1 (b.map qN):=λM=>⟨rfl,λ_=>rfl⟩
    simp only[go_sem,D,or_true,Int.toNat_natCast,zg,Nat.sub_zero]
    have w:ko (b.take n)=none:=K4a (d.take n) (t:=b.drop n) (by rw[qr];exact a) (λe=>by
     have:=congrArg List.length e
     rw[List.length_drop,List.length_nil] at this
     omega)
    have I:SlOf l (.vw (.sl 1 (b.map qN)) 1 0 n) 1 ((b.take n).map qN):=by
     have:=WMa (h:=l) (x:= .sl 1 (b.map qN)) (e:=1) (i:=0) (n:=n) ⟨rfl,λ_=>rfl⟩ (by rw[zb];omega)
     rw[List.drop_zero, <-List.map_take] at this
     exact this
    refine zi (cRead_none l _ I (d.take n) (by rw[zX];omega) w) ?_
    rintro _ h2 ⟨rfl,N⟩
    rw[N]
    clear N
    have hp:wh b [more]=(b++qM more,0):=by
     unfold wh jIa
     rw[if_neg (by simpa using J),List.flatMap_cons,List.flatMap_nil,zU]
    simp only[go_sem]
    refine zi (Wra _ _ _ b [more] ⟨rfl,λ_=>rfl⟩ (vM (ty:=3) (st:=0) (by rw[zM rfl];rfl)) (by omega) (by show 1<1048576;decide)) ?_
    rintro _ h3 ⟨rfl,T⟩
    rw[T,hp]
    clear T
    have P:=Z9 more
    have z:=vqa more
    have o:ko (b++qM more)=none:=kAa d a (λe=>by rw[e] at z;cases z)
    simp only[go_sem]
    refine zi (cRead_none _ _ (b:=b++qM more) ⟨rfl,λ_=>rfl⟩ (λc j=>by
     rcases zK.1 j with j|j
     ·exact d c j
     ·exact Qva more c j) (by rw[ze];omega) o) ?_
    rintro _ h4 ⟨rfl,Q⟩
    rw[Q]
    clear Q
    simp only[go_sem,beq_self_eq_true]
    refine zk ?_<;>(simp only[go_sem]<;>try rfl)
  ·simp only[go_sem,qE,f]
   refine zk ?_<;>(simp only[go_sem]<;>try rfl)
end Go.Proofs.YtigdlmpjijhpaaaGreat.Ax
namespace Go.Proofs.YtigdlmpjijhpaaaGreat.rowCuts
open Go.ChangeShapes Go.WideShapes Go.ChangeAt Go.RowKit
open Go.ChangeMaps (open_string shut_string)
theorem own:ownKnob Tryz.prog.godebug=none:=by kernel_rfl
theorem laidOut:laidOutB Tryz.prog=true:=by kernel_rfl
def IsRow(k:IntKind)(w:World)(a:Option Addr)(len cap:Nat)(b:List Int):Prop:=
 (a=none/\len=0/\cap=0/\b=[])∨
 ∃x,a=some x/\len<=cap/\cap<=maxLen/\b.length=cap/\(∀i,i<b.length->w.cell? (x.add i)=some (.int k (b.getD i 0)))/\∀n∈b,(Lit.int k n).wf=true
theorem walk(b:Value)(a1:Int)(a2:Int)(w:World)(c:Ax.InRws w b)(i:(Lit.int .u16 a1).wf=true)(f:(Lit.int .i64 a2).wf=true):
  Calls Tryz.prog 5 #[b,.int .u16 a1,.int .i64 a2] w λe w'=>e= .returned (.bool true)/\Below w.heap.size w w':=by
 obtain⟨x,W,h,sl,a,d⟩:=c
 exact Ax.run_law (Ax.cRowCuts [] x W sl (λq g=>(a q g).sl) a d a1 (Ax.lit_u16 i) a2 (Ax.wf_fit f).2) ⟨_,_,rfl,h,_,_,rfl,rfl,_,_,rfl,rfl,rfl⟩
set_option maxRecDepth 100000 in
theorem lifted(os:Os)(started:os.Started)(H:Type)(enc:TypeId × Value->H):
  ReturnsInHanded {} Tryz.checked os 5 .any (Rows.rowCutsSpec.pre6 enc Tryz.prog Tryz.f5 Rows.rowCutsRow.domain false) (Rows.rowCutsSpec.post enc Tryz.prog Tryz.f5 false true false false):=by
 refine returnsInHanded_of_change (C:=Tryz.checked) own started (by kernel_rfl) Tryz.func5
  (ChangeSpec.witness6 (enc:=enc) (C:=Tryz.checked) false ⟨#[], #[.slice none 0 0,.int .u16 0,.int .i64 0],[]⟩ 8 (by kernel_rfl) (by kernel_rfl) (by kernel_rfl) (by kernel_rfl)) ?_
 intro W base args ds gs before b u r _
 have a:∀(j:Nat) t v,Tryz.f5.params[j]? =some t->args[j]? =some v->Value.okWide Tryz.prog W .any base t v:=b
 have n:=u
 obtain⟨p,q,g,T,rfl,J,L⟩:=u
 have z:DataW.TrodAll enc Tryz.prog W 0 (λ_=>true) true Tryz.f5.params.toList args.toList ds p:=g
 rw[Tryz.params5] at z a
 obtain⟨v0,B,Y,F,R,q0,k,rfl,rfl,h0,Q⟩:=trodAll_cons z
 obtain⟨v1,E,Z,I,p1,q1,rfl,rfl,rfl,U,K⟩:=trodAll_cons Q
 obtain⟨w,A,d2,M,p2,X,rfl,rfl,rfl,O,N⟩:=trodAll_cons K
 obtain⟨rfl,rfl,rfl⟩:=trodAll_nil N
 obtain rfl:args= #[v0,v1,w]:=by cases args;simp_all
 obtain⟨rfl,rfl⟩:=trodVars_none T
 have k0:=h0
 have l:∀x∈R,x.block<W.heap.size:=by obtain⟨m,G⟩:=k0;exact DataW.trod_lt m _ _ _ G
 obtain⟨f,c,d,rfl⟩:=okWide_slice Tryz.underlying32 (a 0 32 v0 rfl rfl)
 have S:=(by obtain⟨o,P⟩:=h0;exact Ax.rws_in (v:= .slice f c d) (by simpa [Value.cells] using P):Ax.InRws W (.slice f c d))
 obtain⟨a1,rfl,rfl,rfl,s⟩:=open_int Tryz.underlying58 (a 1 58 v1 rfl rfl) U
 obtain⟨a2,rfl,rfl,rfl,y⟩:=open_int Tryz.underlying3 (a 2 3 w rfl rfl) O
 clear g b
 refine(walk (.slice f c d) a1 a2 W S s y).mono λe V ⟨D,i⟩=>?_
 subst D
 exact⟨_,rfl,_,_,_,[],_,[],n,trodAll_mk1 (shut_bool Tryz.underlying4 _),(trodAll_cons_mk (Below.trod laidOut (by kernel_rfl) (of_decide_eq_true (by kernel_rfl)) k0 i l) (trodAll_cons_mk (shut_int Tryz.underlying58 s) (trodAll_cons_mk (shut_int Tryz.underlying3 y) trodAll_mk0))),rfl,i.frame _,λh=>by cases h⟩
theorem over:Rows.rowCutsRow.holds Tryz.pinned (OpenSpec.ofChange Rows.rowCutsSpec):=
 OpenClaim.holds_of_wide 5 Tryz.f5 rfl rfl rfl rfl rfl rfl rfl ⟨rfl,rfl,rfl,rfl,rfl⟩ rfl rfl rfl rfl rfl (by kernel_rfl) Tryz.func5 (rowCutsJ.rest rowCutsJ.may rowCutsJ.lift rowCutsJ.make)
  (of_decide_eq_true (by kernel_rfl)) (by unfold Func.isWrapper;first|(rw[if_pos (by decide+kernel)];kernel_rfl)|(rw[if_neg (by decide+kernel)];exact⟨rfl,rfl⟩))
  (λos started H enc _=>lifted os started H enc)
theorem proved:Rows.RowCutsSaid:=over
#print axioms proved
end Go.Proofs.YtigdlmpjijhpaaaGreat.rowCuts
