/-
  RowWeeks: whatever the input, the call returns true and leaves its arguments as they were. No condition.
-/
import Derived.Test.YtigdlmpjijhpaaaGreatK39
import Derived.Test.YtigdlmpjijhpaaaGreatK42
import Derived.Test.YtigdlmpjijhpaaaGreatRows
import Derived.Test.YtigdlmpjijhpaaaGreatO0RowWeeks
import Derived.Test.YtigdlmpjijhpaaaGreatO1RowWeeks
import Derived.Test.YtigdlmpjijhpaaaGreatO2RowWeeks
import Derived.WalkKit
import Derived.ProofKit
import Derived.OpenShut
import Derived.ShutString
import Derived.ChangeOld
import Derived.Below
import Derived.Deep.Matrix
set_option linter.unusedSimpArgs false
set_option linter.unusedVariables false
namespace Go.Proofs.YtigdlmpjijhpaaaGreat.Ax
open Go Go.Proofs
set_option maxRecDepth 100000
theorem wrong_ok {s:Setup} {w wk:Int} (a:zE s=true) (b:0<=w/\w<(s.rates.length:Int)) (c:0<=wk/\wk<=52):xG s w wk=0:=by
 unfold xG
 rw[a,if_neg (by simp),if_neg (by omega),if_neg (by omega)]
theorem week_is {s:Setup} {l:List Ev} {w k:Int} (a:xG s w k=0) (h0:0<=w):(∀j:Nat,(je s l w k).1.tot j=xj (qB s (zR s l w).1 k) j)/\(je s l w k).2=qM (evR s w l) (zR s l w).2 k:=by
 unfold je
 rw[if_neg (by omega)]
 refine ⟨λj=>?_,?_⟩
 ·show xj (qB s (zR s (evR s w l) (w.toNat:Int)).1 k) j=_
  rw[Int.toNat_of_nonneg h0,Z1a]
 ·show qM (evR s w l) (zR s (evR s w l) w).2 k=_
  rw[Z1a]
theorem sumK_rng {f:Nat->Int} {B:Int} (h:∀k,0<=f k/\f k<=B):∀n:Nat,0<=we f n/\we f n<=n*B
 | 0=>⟨Int.le_refl 0,by simp[we]⟩
 | n+1=>by
   have a:=sumK_rng h n
   have b:=h n
   rw[we]
   constructor
   ·omega
   ·have:((n+1:Nat):Int)*B=n*B+B:=by rw[Int.natCast_add,Int.add_mul];simp
    omega
def acc7 (t:Nat->Int):Nat->Int
 | 0=>0
 | n+1=>acc7 t n+t n
theorem acc7_rng {t:Nat->Int} (h:∀j,0<=t j/\t j<=604800):∀n:Nat,0<=acc7 t n/\acc7 t n<=604800*n
 | 0=>⟨Int.le_refl 0,by simp[acc7]⟩
 | n+1=>by
   have a:=acc7_rng h n
   have b:=h n
   rw[acc7]
   omega
set_option maxHeartbeats 4000000 in
theorem cRowWeeks (h:List Ob) (s:Setup) (a:SA) (k:SIn h s a) (f0:SFit0 s) (x:AV) (l:List Ev) (hx:SlOf h x 11 (l.map evC)) (w:Int):
  ACalls Tryz.prog 4 [qj s a,x,i64 w] h λr h'=>r=bl true/\h'=h:=by
 refine zf Tryz.f4 [.tmp 6] 82 rfl rfl rfl rfl rfl rfl (by decide) (⟨_,_,⟨rfl,rfl⟩,.refl⟩) λB=>?_
 simp only[go_sem,k.w.one,k.e.one,k.c.one,k.g.one,k.r.one,k.t.one]
 refine zd (Xna _) ?_
 rintro _ h1 ⟨rfl,rfl⟩
 have K:∀M,SIn (h++M) s a:=λM=>k.app M
 simp only[go_sem,(K _).ones]
 refine zd (Xma _ s a (K _) x l (hx.app _)) ?_
 rintro _ h1 ⟨rfl,I⟩
 rw[I]
 cases hf:(zVa s && decide (l.length<=60))
 ·simp only[go_sem,zL]
  (first | refine zc ?_ | refine ze ?_ (by rfl))<;>(simp only[go_sem]<;>try rfl)
 ·rw[Bool.and_eq_true,decide_eq_true_eq] at hf
  obtain ⟨η,hll⟩:=hf
  have f:=f0.few η
  simp only[go_sem,zL,(K _).ones]
  refine zd (c16 _ s a (K _) f) ?_
  rintro _ h1 ⟨rfl,I⟩
  rw[I]
  cases hs:zE s
  ·simp only[go_sem,zL]
   (first | refine zc ?_ | refine ze ?_ (by rfl))<;>(simp only[go_sem]<;>try rfl)
  ·have X:∀M,zo (h++M) a.r=some (s.rates.map zJ):=λM=>(K M).r.rows
   cases U:decide (w<0)
   rotate_left
   ·simp only[go_sem,zL,U]
    (first | refine zc ?_ | refine ze ?_ (by rfl))<;>(simp only[go_sem]<;>try rfl)
   cases q2:decide (w≥(s.rates.length:Int))
   rotate_left
   ·simp only[go_sem,zL,U,q2,X,List.length_map]
    (first | refine zc ?_ | refine ze ?_ (by rfl))<;>(simp only[go_sem]<;>try rfl)
   rw[decide_eq_false_iff_not] at U q2
   have hw:0<=w/\w<(s.rates.length:Int):=by omega
   have U:decide (w<0)=false:=by rw[decide_eq_false_iff_not];exact U
   have q2:decide (w≥(s.rates.length:Int))=false:=by rw[decide_eq_false_iff_not];exact q2
   simp only[go_sem,zL,U,q2,X,List.length_map,(K _).ones]
   refine zd (c21 _ s a (K _) f x l w (hx.app _) (by omega)) ?_
   rintro _ h1 ⟨L1,y,z,rfl,n1,rfl,ny,nz⟩
   obtain ⟨b,hb⟩:∃b,b=(zR s l w).1:=⟨_,rfl⟩
   obtain ⟨E,Q⟩:∃E,E=(zR s l w).2:=⟨_,rfl⟩
   rw[<-hb] at ny
   rw[<-Q] at nz
   have υ:b.length<1048576:=by rw[hb];have:= @JC s l w;omega
   have hfll:E.length<=181:=by rw[Q];have:= @JE s l w;omega
   obtain ⟨h0,q⟩:∃h0,h0=h++[Ob.box 30 (zr s a)]++L1:=⟨_,rfl⟩
   have hy:SlOf h0 y 5 (b.map xf):=by rw[q];exact ny _ rfl
   have hz:SlOf h0 z 2 (E.map xP):=by rw[q];exact nz _ rfl
   have k0:SIn h0 s a:=by rw[q];exact (K _).app _
   have x0:SlOf h0 x 11 (l.map evC):=by rw[q];exact (hx.app _).app _
   have b0:h0[h.length]? =some (.box 30 (zr s a)):=by rw[q];exact zb (zm rfl)
   have W:∃L,h0=h++L:=⟨_,by rw[q,List.append_assoc]⟩
   rw[<-q]
   clear q ny nz
   have σ:∀n:Nat,n<=52->(∀j:Nat,(je s l w n).1.tot j=xj (qB s b n) j)/\(je s l w n).2=qM (evR s w l) E n:=λn hn=>by
    rw[hb,Q]
    exact week_is (wrong_ok hs hw (by omega)) hw.1
   have rA:=sumK_rng (f:=λn=>ZTa s b n) (B:=4233600) λn=>by
    have h0:=Jya (s:=s) (L:=b) (wk:=n) (k:=0)
    have h1:=Jya (s:=s) (L:=b) (wk:=n) (k:=1)
    have h2:=Jya (s:=s) (L:=b) (wk:=n) (k:=2)
    have h3:=Jya (s:=s) (L:=b) (wk:=n) (k:=3)
    have h4:=Jya (s:=s) (L:=b) (wk:=n) (k:=4)
    have h5:=Jya (s:=s) (L:=b) (wk:=n) (k:=5)
    have h6:=Jya (s:=s) (L:=b) (wk:=n) (k:=6)
    unfold ZTa
    omega
   have rF:=sumK_rng (f:=λn=>((qM (evR s w l) E n).length:Int)) (B:=181) λn=>by
    have:=List.length_filter_le (λf=>y9 (evR s w l) f==(n:Int)) E
    unfold qM
    omega
   simp only[go_sem]
   refine zk (by decide) (λm T H=>∃n:Nat,n<=53/\Pre h0 H/\T 1=x/\T 2=i64 w/\T 3= .ptr h.length 0/\T 7=bl true/\T 8=y/\T 9=z/\T 10=i64 (we (λn=>ZTa s b n) n)/\T 11=i64 (we (λn=>((qM (evR s w l) E n).length:Int)) n)/\T 12=i64 n/\m=53 - n) 53
    ⟨0,by omega,.refl,by simp only[go_sem],by simp only[go_sem],by simp only[go_sem],by simp only[go_sem],by simp only[go_sem],by simp only[go_sem],by (simp only[go_sem]<;>rfl),by (simp only[go_sem]<;>rfl),by (simp only[go_sem]<;>rfl),rfl⟩ ?_
   rintro m T H ⟨n,hn,S,t1,t2,t3,G,t8,t9,t10,p,o,rfl⟩
   have ζ:=S.sl hy
   have V:=S.sl hz
   have kH:=S.sin k0
   have xH:=S.sl x0
   have bH:∀M,(H++M)[h.length]? =some (.box 30 (zr s a)):=λM=>by
    obtain ⟨L,rfl,_⟩:=S
    exact zb (zb b0)
   have ω:H[h.length]? =some (.box 30 (zr s a)):=by simpa using bH []
   simp only[go_sem,o]
   refine ways (λe=>?_) (λe=>?_)
   ·have hlt:(n:Int)<53:=of_decide_eq_true e
    obtain ⟨J,w2⟩:=σ n (by omega)
    simp only[go_sem,t1,t2,t3,o,ω,kH.ones]
    refine zd (Jja _ s a kH f x l w n xH (by omega)) ?_
    rintro _ h1 ⟨rfl,I⟩
    rw[I,w2]
    clear I
    have a0:=rA n
    have f0':=rF n
    have a1:=rA (n+1)
    have f1:=rF (n+1)
    obtain ⟨A,hA⟩:∃A,A=we (λn=>ZTa s b n) n:=⟨_,rfl⟩
    obtain ⟨C,hC⟩:∃C,C=we (λn=>((qM (evR s w l) E n).length:Int)) n:=⟨_,rfl⟩
    rw[<-hA] at t10 a0
    rw[<-hC] at p f0'
    have α:we (λn=>ZTa s b n) (n+1)=A+ZTa s b n:=by rw[hA];rfl
    have N:we (λn=>((qM (evR s w l) E n).length:Int)) (n+1)=C+((qM (evR s w l) E n).length:Int):=by rw[hC];rfl
    rw[α] at a1
    rw[N] at f1
    obtain ⟨R,hR⟩:∃R,R=(je s l w n).1:=⟨_,rfl⟩
    rw[<-hR] at J⊢
    obtain ⟨F,hF⟩:∃F,F=qM (evR s w l) E n:=⟨_,rfl⟩
    rw[<-hF] at f1 N⊢
    have δ:=acc7_rng (t:=R.tot) λj=>by rw[J];exact Jya
    have h7:acc7 R.tot 7=ZTa s b n:=by
     have e0:R.tot 0=xj (qB s b n) 0:=J 0
     have I:R.tot 1=xj (qB s b n) 1:=J 1
     have e2:R.tot 2=xj (qB s b n) 2:=J 2
     have e3:R.tot 3=xj (qB s b n) 3:=J 3
     have e4:R.tot 4=xj (qB s b n) 4:=J 4
     have e5:R.tot 5=xj (qB s b n) 5:=J 5
     have e6:R.tot 6=xj (qB s b n) 6:=J 6
     show 0+R.tot 0+R.tot 1+R.tot 2+R.tot 3+R.tot 4+R.tot 5+R.tot 6=_
     unfold ZTa
     rw[e0,I,e2,e3,e4,e5,e6]
     omega
    have φ:IntKind.wrap .i64 (C+(F.length:Int))=C+(F.length:Int):=zF (by unfold Fit;omega)
    simp only[go_sem,qda,List.cons_append,List.nil_append,p,φ,List.length_map]
    obtain ⟨Z,O⟩:∃Z,Z=H++[Ob.box 45 (jT R (.sl 2 (F.map xP)))]:=⟨_,rfl⟩
    have D:Z[H.length]? =some (.box 45 (jT R (.sl 2 (F.map xP)))):=by rw[O];exact zm rfl
    have κ:Pre h0 Z:=by rw[O];exact S.app (zj rfl)
    have P:=O
    simp only[jT] at P
    rw[<-P]
    clear P
    refine zk (by decide) (λm T h'=>∃j:Nat,j<=7/\h'=Z/\T 1=x/\T 2=i64 w/\T 3= .ptr h.length 0/\T 7=bl true/\T 8=y/\T 9=z/\T 10=i64 (A+acc7 R.tot j)/\T 11=i64 (C+(F.length:Int))/\T 12=i64 n/\T 13= .ptr H.length 0/\T 14=i64 j/\m=7 - j) 7
     ⟨0,by omega,rfl,by simp only[go_sem,t1],by simp only[go_sem,t2],by simp only[go_sem,t3],by simp only[go_sem,G],by simp only[go_sem,t8],by simp only[go_sem,t9],by (simp only[go_sem,t10,acc7,Int.add_zero]<;>rfl),by (simp only[go_sem]<;>rfl),by simp only[go_sem,o],by simp only[go_sem],by (simp only[go_sem]<;>rfl),rfl⟩ ?_
    clear t1 t2 t3 G t8 t9 t10 p o
    rintro m T h' ⟨j,hj,rfl,t1,t2,t3,G,t8,t9,t10,p,o,v,d,rfl⟩
    simp only[go_sem,d]
    refine ways (λe=>?_) (λe=>?_)
    ·have hjt:(j:Int)<7:=of_decide_eq_true e
     have u:∀i:Nat,i<=7->Fit (A+acc7 R.tot i):=λi hi=>by
      have:=δ i
      unfold Fit;omega
     have g1:IntKind.wrap .i64 (A+acc7 R.tot 0+R.tot 0)=A+acc7 R.tot 1:=by rw[Int.add_assoc];exact zF (u 1 (by omega))
     have g2:IntKind.wrap .i64 (A+acc7 R.tot 1+R.tot 1)=A+acc7 R.tot 2:=by rw[Int.add_assoc];exact zF (u 2 (by omega))
     have g3:IntKind.wrap .i64 (A+acc7 R.tot 2+R.tot 2)=A+acc7 R.tot 3:=by rw[Int.add_assoc];exact zF (u 3 (by omega))
     have g4:IntKind.wrap .i64 (A+acc7 R.tot 3+R.tot 3)=A+acc7 R.tot 4:=by rw[Int.add_assoc];exact zF (u 4 (by omega))
     have g5:IntKind.wrap .i64 (A+acc7 R.tot 4+R.tot 4)=A+acc7 R.tot 5:=by rw[Int.add_assoc];exact zF (u 5 (by omega))
     have g6:IntKind.wrap .i64 (A+acc7 R.tot 5+R.tot 5)=A+acc7 R.tot 6:=by rw[Int.add_assoc];exact zF (u 6 (by omega))
     have g7:IntKind.wrap .i64 (A+acc7 R.tot 6+R.tot 6)=A+acc7 R.tot 7:=by rw[Int.add_assoc];exact zF (u 7 (by omega))
     obtain rfl | rfl | rfl | rfl | rfl | rfl | rfl:j=0∨j=1∨j=2∨j=3∨j=4∨j=5∨j=6:=by omega
     ·have d:T 14=i64 0:=d
      simp only[go_sem,t10,v,d,D,jT,g1]
      exact ⟨7 - (0+1),by omega,0+1,by omega,t1,t2,t3,G,t8,t9,rfl,p,o,rfl,rfl⟩
     ·have d:T 14=i64 1:=d
      simp only[go_sem,t10,v,d,D,jT,g2]
      exact ⟨7 - (1+1),by omega,1+1,by omega,t1,t2,t3,G,t8,t9,rfl,p,o,rfl,rfl⟩
     ·have d:T 14=i64 2:=d
      simp only[go_sem,t10,v,d,D,jT,g3]
      exact ⟨7 - (2+1),by omega,2+1,by omega,t1,t2,t3,G,t8,t9,rfl,p,o,rfl,rfl⟩
     ·have d:T 14=i64 3:=d
      simp only[go_sem,t10,v,d,D,jT,g4]
      exact ⟨7 - (3+1),by omega,3+1,by omega,t1,t2,t3,G,t8,t9,rfl,p,o,rfl,rfl⟩
     ·have d:T 14=i64 4:=d
      simp only[go_sem,t10,v,d,D,jT,g5]
      exact ⟨7 - (4+1),by omega,4+1,by omega,t1,t2,t3,G,t8,t9,rfl,p,o,rfl,rfl⟩
     ·have d:T 14=i64 5:=d
      simp only[go_sem,t10,v,d,D,jT,g6]
      exact ⟨7 - (5+1),by omega,5+1,by omega,t1,t2,t3,G,t8,t9,rfl,p,o,rfl,rfl⟩
     ·have d:T 14=i64 6:=d
      simp only[go_sem,t10,v,d,D,jT,g7]
      exact ⟨7 - (6+1),by omega,6+1,by omega,t1,t2,t3,G,t8,t9,rfl,p,o,rfl,rfl⟩
    ·have μ:¬ ((j:Int)<7):=of_decide_eq_false e
     have ι:j=7:=by omega
     subst ι
     rw[h7] at t10
     simp only[go_sem,o]
     exact ⟨53 - (n+1),by omega,n+1,by omega,κ,t1,t2,t3,G,t8,t9,by rw[α];exact t10,by rw[N];exact p,zw (by omega) rfl,rfl⟩
   ·have μ:¬ ((n:Int)<53):=of_decide_eq_false e
    have Y:n=53:=by omega
    subst Y
    simp only[go_sem,G,t8]
    refine zd (c31 _ y b ζ υ) ?_
    rintro r3 h4 ⟨L3,rfl,n3,τ⟩
    have ν:=τ _ rfl
    have χ:=zq (b.map spS)
    rw[List.length_map] at χ
    simp only[go_sem]
    refine zd (qKa _ r3 (zG b) ν (by unfold zG;omega)) ?_
    rintro _ h4 ⟨rfl,rfl⟩
    have I:(we (λn=>ZTa s b n) 53==qf (zt (zG b)))=true:=by
     rw[Z0a (Q4 hs).dayReg.2 b]
     exact beq_self_eq_true _
    have e2:(we (λn=>((qM (evR s w l) E n).length:Int)) 53==(E.length:Int))=true:=by
     rw[xua]
     exact beq_self_eq_true _
    have hzr:=V.rows
    have ε:=(V.app L3).rows
    simp only[go_sem,t9,t10,p,I,e2,ε,zL,List.length_map]
    obtain ⟨L,hL⟩:=W
    obtain ⟨L0,rfl,hN0⟩:=S
    rw[hL]
    simp only[List.append_assoc]
    (first | refine zc ?_ | refine ze ?_ (by rfl))<;>(simp only[go_sem]<;>try rfl)
end Go.Proofs.YtigdlmpjijhpaaaGreat.Ax
namespace Go.Proofs.YtigdlmpjijhpaaaGreat.rowWeeks
open Go.ChangeShapes Go.WideShapes Go.ChangeAt Go.RowKit
open Go.ChangeMaps (open_string shut_string)
theorem own:ownKnob Tryz.prog.godebug=none:=by kernel_rfl
theorem laidOut:laidOutB Tryz.prog=true:=by kernel_rfl
def IsRow (k:IntKind) (w:World) (a:Option Addr) (len cap:Nat) (b:List Int):Prop:=
 (a=none/\len=0/\cap=0/\b=[])∨
 ∃x,a=some x/\len<=cap/\cap<=maxLen/\b.length=cap/\(∀i,i<b.length->w.cell? (x.add i)=some (.int k (b.getD i 0)))/\∀n∈b,(Lit.int k n).wf=true
theorem walk (b:Value) (c:Value) (a2:Int) (w:World) (h:Ax.InSet w b) (d:Ax.InEvs w c) (j:(Lit.int .i64 a2).wf=true):
  Calls Tryz.prog 4 #[b,c,.int .i64 a2] w λe w'=>e= .returned (.bool true)/\Below w.heap.size w w':=by
 obtain ⟨s,a,i,ks,g⟩:=h
 obtain ⟨x,l,f,sl⟩:=d
 exact Ax.run_law (Ax.cRowWeeks [] s a ks g x l sl a2) ⟨_,_,rfl,i,_,_,rfl,f,_,_,rfl,rfl,rfl⟩
set_option maxRecDepth 100000 in
theorem lifted (os:Os) (started:os.Started) (H:Type) (enc:TypeId × Value->H):
  ReturnsInHanded {} Tryz.checked os 4 .any (Rows.rowWeeksSpec.pre6 enc Tryz.prog Tryz.f4 Rows.rowWeeksRow.domain false) (Rows.rowWeeksSpec.post enc Tryz.prog Tryz.f4 false true false false):=by
 refine returnsInHanded_of_change (C:=Tryz.checked) own started (by kernel_rfl) Tryz.func4
  (ChangeSpec.witness6 (enc:=enc) (C:=Tryz.checked) false ⟨#[], #[.agg #[.int .i64 0,.slice none 0 0,.int .i64 0,.int .i64 0,.slice none 0 0,.slice none 0 0,.slice none 0 0,.int .i64 0,.int .i64 0,.int .i64 0,.int .i64 0,.int .i64 0,.int .i64 0,.int .i64 0,.int .i64 0,.int .i64 0,.int .i64 0,.int .i64 0,.slice none 0 0,.int .i64 0,.int .i64 0,.int .i64 0,.slice none 0 0],.slice none 0 0,.int .i64 0],[]⟩ 8 (by kernel_rfl) (by kernel_rfl) (by kernel_rfl) (by kernel_rfl)) ?_
 intro W base args ds gs before b A u _
 have a:∀(j:Nat) t v,Tryz.f4.params[j]? =some t->args[j]? =some v->Value.okWide Tryz.prog W .any base t v:=b
 have r:=A
 obtain ⟨p,q,i,K,rfl,R,Q⟩:=A
 have s:DataW.TrodAll enc Tryz.prog W 0 (λ_=>true) true Tryz.f4.params.toList args.toList ds p:=i
 rw[Tryz.params4] at s a
 obtain ⟨v0,U,d0,M,O,q0,k,rfl,rfl,h0,V⟩:=trodAll_cons s
 obtain ⟨v1,E,d1,D,p1,q1,rfl,rfl,rfl,w,G⟩:=trodAll_cons V
 obtain ⟨B,N,Y,L,p2,Z,rfl,rfl,rfl,S,I⟩:=trodAll_cons G
 obtain ⟨rfl,rfl,rfl⟩:=trodAll_nil I
 obtain rfl:args= #[v0,v1,B]:=by cases args;simp_all
 obtain ⟨rfl,rfl⟩:=trodVars_none K
 have k0:=h0
 have o:∀x∈O,x.block<W.heap.size:=by obtain ⟨m,l⟩:=k0;exact DataW.trod_lt m _ _ _ l
 have P:=Ax.setup_in (a 0 30 v0 rfl rfl) h0
 have k1:=w
 have n:∀x∈p1,x.block<W.heap.size:=by obtain ⟨m,l⟩:=k1;exact DataW.trod_lt m _ _ _ l
 obtain ⟨c,f,d,rfl⟩:=okWide_slice Tryz.underlying31 (a 1 31 v1 rfl rfl)
 have F:=(by obtain ⟨z,T⟩:=w;exact Ax.evs_in (v:= .slice c f d) (by simpa [Value.cells] using T):Ax.InEvs W (.slice c f d))
 obtain ⟨a2,rfl,rfl,rfl,y⟩:=open_int Tryz.underlying3 (a 2 3 B rfl rfl) S
 clear i b
 refine (walk v0 (.slice c f d) a2 W P F y).mono λe X ⟨J,g⟩=>?_
 subst J
 exact ⟨_,rfl,_,_,_,[],_,[],r,trodAll_mk1 (shut_bool Tryz.underlying4 _),(trodAll_cons_mk (Below.trod laidOut (by kernel_rfl) (of_decide_eq_true (by kernel_rfl)) k0 g o) (trodAll_cons_mk (Below.trod laidOut (by kernel_rfl) (of_decide_eq_true (by kernel_rfl)) k1 g n) (trodAll_cons_mk (shut_int Tryz.underlying3 y) trodAll_mk0))),rfl,g.frame _,λh=>by cases h⟩
theorem over:Rows.rowWeeksRow.holds Tryz.pinned (OpenSpec.ofChange Rows.rowWeeksSpec):=
 OpenClaim.holds_of_wide 4 Tryz.f4 rfl rfl rfl rfl rfl rfl rfl ⟨rfl,rfl,rfl,rfl,rfl⟩ rfl rfl rfl rfl rfl (by kernel_rfl) Tryz.func4 (rowWeeksJ.rest rowWeeksJ.may rowWeeksJ.lift rowWeeksJ.make)
  (of_decide_eq_true (by kernel_rfl)) (by unfold Func.isWrapper;first | (rw[if_pos (by decide+kernel)];kernel_rfl) | (rw[if_neg (by decide+kernel)];exact ⟨rfl,rfl⟩))
  (λos started H enc _=>lifted os started H enc)
theorem proved:Rows.RowWeeksSaid:=over
#print axioms proved
end Go.Proofs.YtigdlmpjijhpaaaGreat.rowWeeks
