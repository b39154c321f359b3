/-
  CacheAgain: whatever the input, the call returns true and leaves its arguments as they were. No condition.
-/
import Derived.Test.YtigdlmpjijhpaaaGreatK48
import Derived.Test.YtigdlmpjijhpaaaGreatRows
import Derived.Test.YtigdlmpjijhpaaaGreatO0CacheAgain
import Derived.Test.YtigdlmpjijhpaaaGreatO1CacheAgain
import Derived.Test.YtigdlmpjijhpaaaGreatO2CacheAgain
import Derived.WalkKit
import Derived.ProofKit
import Derived.OpenShut
import Derived.ShutString
import Derived.ChangeOld
import Derived.Below
import Derived.Deep.Matrix
set_option linter.all false
namespace Go.Proofs.YtigdlmpjijhpaaaGreat.Ax
open Go Go.Proofs
set_option maxRecDepth 100000
set_option maxHeartbeats 4000000 in
theorem cCacheAgain(h:List Ob)(s:Setup)(a:SA)(k:SIn h s a)(f0:SFit0 s)(x:AV)(l:List Cm)(C:SlOf h x 16 (l.map ym))(w wk:Int):
  ACalls Tryz.prog 10 [je s a,x,i64 w,i64 wk] h λr h'=>r=bl true/\h'=h:=by
 refine zi Tryz.f10 [.tmp 8] 91 rfl rfl rfl rfl rfl rfl (by decide) (⟨_,_,⟨rfl,rfl⟩,.refl⟩) λB=>?_
 simp only[go_sem,k.w.one,k.e.one,k.c.one,k.g.one,k.r.one,k.t.one]
 refine zg (kBb _) ?_
 rintro _ o ⟨rfl,rfl⟩
 have z:∀M,SIn (h++M) s a:=λM=>k.app M
 simp only[go_sem,(z _).ones]
 refine zg (YQa _ s a (z _) f0.fit) ?_
 rintro _ o ⟨rfl,rfl⟩
 have y:=(yI (h:=h) s).ones
 cases p:z6 s
 ·simp only[go_sem,Yga,zA,jF,(z _).ones]
  refine zg (kzb _ s a (z _) x l (C.app _)) ?_
  rintro _ o ⟨rfl,d⟩
  rw[d]
  cases J:(zoa s && decide (l.length<=40))
  ·simp only[go_sem,qt]
   refine zn ?_<;>(simp only[go_sem]<;>try rfl)
  ·simp only[go_sem,qt,kDb]
   refine zn ?_<;>(simp only[go_sem]<;>try rfl)
 ·simp only[go_sem,y,(z _).ones]
  refine zg (kzb _ s a (z _) x l (C.app _)) ?_
  rintro _ o ⟨rfl,d⟩
  rw[d]
  cases J:(zoa s && decide (l.length<=40))
  ·simp only[go_sem,qt]
   refine zn ?_<;>(simp only[go_sem]<;>try rfl)
  ·rw[zq,decide_eq_true_eq] at J
   obtain⟨v,Q⟩:=J
   have f:=f0.few v
   have n:=qtb v
   have F:=xgb v
   simp only[go_sem,qt,y,bne_self_eq_false]
   refine zg (xyb _ s f p z0a (z1a s) x l (C.app _) (by omega) n) ?_
   rintro _ o ⟨rfl,d⟩
   rw[d]
   clear d
   have m:=z8a l (z1a s)
   obtain⟨X,R⟩:∃X,X=(xU s z0a l).1:=⟨_,rfl⟩
   rw[<-R] at m⊢
   simp only[go_sem,y]
   obtain⟨q,E⟩:∃q:Cm,q=⟨3,⟨0,ev0⟩,w,wk,0⟩:=⟨_,rfl⟩
   have D:q.kind=3:=by rw[E]
   have I:(q.worker,q.week)=(w,wk):=by rw[E]
   have A:ym q=[i64 3,i64 0,i64 0,i64 0,i64 0,i64 0,i64 0,i64 0,i64 0,i64 0,i64 0,i64 0,i64 0,i64 w,i64 wk,i64 0]:=by rw[E];rfl
   have L:=λH X (i:ChI s X)=>kxb H s f p X i q n
   rw[A] at L
   refine zg (L _ X m) ?_
   rintro _ o ⟨rfl,d⟩
   rw[d]
   clear d
   have j:=Zoa q m
   obtain⟨a1,a2⟩:=qub p f m D
   have G:=(qqb p f m q).2
   have u:AnFew (doC s X q).2.1:=by rw[G];exact WWa f m.bk n q
   rw[I] at a2
   obtain⟨Y,N⟩:∃Y,Y=(doC s X q).1:=⟨_,rfl⟩
   obtain⟨W,O⟩:∃W,W=(doC s X q).2.1:=⟨_,rfl⟩
   rw[<-N] at j a1 a2
   rw[<-O] at a1 a2 u
   rw[<-N, <-O]
   simp only[go_sem,y]
   refine zg (L _ Y j) ?_
   rintro _ o ⟨rfl,d⟩
   rw[d,a1]
   clear d
   have S:[i64 w,i64 wk]=jm (w,wk):=rfl
   simp only[go_sem,y]
   refine zg (YRa f n j _ (w,wk)) ?_
   rintro _ o ⟨rfl,d⟩
   rw[d,a2]
   clear d
   have P:∀b:Bool,(b==b)=true:=λb=>by cases b<;>rfl
   simp only[go_sem,y,P,qt,q9,ve,List.cons_append,List.nil_append]
   refine zg (krb _ W u) ?_
   rintro _ o ⟨rfl,d⟩
   rw[d]
   clear d
   have K:((0:Int)==0)=true:=rfl
   simp only[go_sem,y,K,qt,List.map_nil,List.length_nil]
   refine zg (xAb _ s f F n Y j) ?_
   rintro _ o ⟨rfl,d⟩
   rw[d]
   clear d
   simp only[go_sem,qt]
   refine zn ?_<;>(simp only[go_sem]<;>try rfl)
end Go.Proofs.YtigdlmpjijhpaaaGreat.Ax
namespace Go.Proofs.YtigdlmpjijhpaaaGreat.cacheAgain
open Go.ChangeShapes Go.WideShapes Go.ChangeAt Go.RowKit
open Go.ChangeMaps (open_string shut_string)
theorem own:ownKnob Tryz.prog.godebug=none:=by kernel_rfl
theorem laidOut:laidOutB Tryz.prog=true:=by kernel_rfl
def IsRow(k:IntKind)(w:World)(a:Option Addr)(len cap:Nat)(b:List Int):Prop:=
 (a=none/\len=0/\cap=0/\b=[])∨
 ∃x,a=some x/\len<=cap/\cap<=maxLen/\b.length=cap/\(∀i,i<b.length->w.cell? (x.add i)=some (.int k (b.getD i 0)))/\∀n∈b,(Lit.int k n).wf=true
theorem walk(c:Value)(b:Value)(a2:Int)(a3:Int)(w:World)(i:Ax.InSet w c)(g:Ax.InCms w b)(k:(Lit.int .i64 a2).wf=true)(j:(Lit.int .i64 a3).wf=true):
  Calls Tryz.prog 10 #[c,b,.int .i64 a2,.int .i64 a3] w λe w'=>e= .returned (.bool true)/\Below w.heap.size w w':=by
 obtain⟨s,a,h,ks,f⟩:=i
 obtain⟨x,l,d,sl⟩:=g
 exact Ax.run_law (Ax.cCacheAgain [] s a ks f x l sl a2 a3) ⟨_,_,rfl,h,_,_,rfl,d,_,_,rfl,rfl,_,_,rfl,rfl,rfl⟩
set_option maxRecDepth 100000 in
theorem lifted(os:Os)(started:os.Started)(H:Type)(enc:TypeId × Value->H):
  ReturnsInHanded {} Tryz.checked os 10 .any (Rows.cacheAgainSpec.pre6 enc Tryz.prog Tryz.f10 Rows.cacheAgainRow.domain false) (Rows.cacheAgainSpec.post enc Tryz.prog Tryz.f10 false true false false):=by
 refine returnsInHanded_of_change (C:=Tryz.checked) own started (by kernel_rfl) Tryz.func10
  (ChangeSpec.witness6 (enc:=enc) (C:=Tryz.checked) false ⟨#[], #[.agg #[.int .i64 0,.slice none 0 0,.int .i64 0,.int .i64 0,.slice none 0 0,.slice none 0 0,.slice none 0 0,.int .i64 0,.int .i64 0,.int .i64 0,.int .i64 0,.int .i64 0,.int .i64 0,.int .i64 0,.int .i64 0,.int .i64 0,.int .i64 0,.int .i64 0,.slice none 0 0,.int .i64 0,.int .i64 0,.int .i64 0,.slice none 0 0],.slice none 0 0,.int .i64 0,.int .i64 0],[]⟩ 8 (by kernel_rfl) (by kernel_rfl) (by kernel_rfl) (by kernel_rfl)) ?_
 intro W base args ds gs before b z y _
 have a:∀(j:Nat) t v,Tryz.f10.params[j]? =some t->args[j]? =some v->Value.okWide Tryz.prog W .any base t v:=b
 have l:=z
 obtain⟨p,q,i,R,rfl,E,M⟩:=z
 have B:DataW.TrodAll enc Tryz.prog W 0 (λ_=>true) true Tryz.f10.params.toList args.toList ds p:=i
 rw[Tryz.params10] at B a
 obtain⟨v0,L,d0,G,U,q0,r,rfl,rfl,h0,O⟩:=trodAll_cons B
 obtain⟨v1,V,d1,F,p1,q1,rfl,rfl,rfl,u,Y⟩:=trodAll_cons O
 obtain⟨D,Z,d2,N,p2,q2,rfl,rfl,rfl,P,r2⟩:=trodAll_cons Y
 obtain⟨v3,K,d3,β,p3,q3,rfl,rfl,rfl,X,T⟩:=trodAll_cons r2
 obtain⟨rfl,rfl,rfl⟩:=trodAll_nil T
 obtain rfl:args= #[v0,v1,D,v3]:=by cases args;simp_all
 obtain⟨rfl,rfl⟩:=trodVars_none R
 have k0:=h0
 have n:∀x∈U,x.block<W.heap.size:=by obtain⟨m,k⟩:=k0;exact DataW.trod_lt m _ _ _ k
 have I:=Ax.setup_in (a 0 30 v0 rfl rfl) h0
 have k1:=u
 have o:∀x∈p1,x.block<W.heap.size:=by obtain⟨m,k⟩:=k1;exact DataW.trod_lt m _ _ _ k
 obtain⟨c,d,g,rfl⟩:=okWide_slice Tryz.underlying61 (a 1 61 v1 rfl rfl)
 have Q:=(by obtain⟨w,S⟩:=u;exact Ax.cms_in (v:= .slice c d g) (by simpa [Value.cells] using S):Ax.InCms W (.slice c d g))
 obtain⟨a2,rfl,rfl,rfl,s⟩:=open_int Tryz.underlying3 (a 2 3 D rfl rfl) P
 obtain⟨a3,rfl,rfl,rfl,A⟩:=open_int Tryz.underlying3 (a 3 3 v3 rfl rfl) X
 clear i b
 refine(walk v0 (.slice c d g) a2 a3 W I Q s A).mono λe W' ⟨J,f⟩=>?_
 subst J
 exact⟨_,rfl,_,_,_,[],_,[],l,trodAll_mk1 (shut_bool Tryz.underlying4 _),(trodAll_cons_mk (Below.trod laidOut (by kernel_rfl) (of_decide_eq_true (by kernel_rfl)) k0 f n) (trodAll_cons_mk (Below.trod laidOut (by kernel_rfl) (of_decide_eq_true (by kernel_rfl)) k1 f o) (trodAll_cons_mk (shut_int Tryz.underlying3 s) (trodAll_cons_mk (shut_int Tryz.underlying3 A) trodAll_mk0)))),rfl,f.frame _,λh=>by cases h⟩
theorem over:Rows.cacheAgainRow.holds Tryz.pinned (OpenSpec.ofChange Rows.cacheAgainSpec):=
 OpenClaim.holds_of_wide 10 Tryz.f10 rfl rfl rfl rfl rfl rfl rfl ⟨rfl,rfl,rfl,rfl,rfl⟩ rfl rfl rfl rfl rfl (by kernel_rfl) Tryz.func10 (cacheAgainJ.rest cacheAgainJ.may cacheAgainJ.lift cacheAgainJ.make)
  (of_decide_eq_true (by kernel_rfl)) (by unfold Func.isWrapper;first|(rw[if_pos (by decide+kernel)];kernel_rfl)|(rw[if_neg (by decide+kernel)];exact⟨rfl,rfl⟩))
  (λos started H enc _=>lifted os started H enc)
theorem proved:Rows.CacheAgainSaid:=over
#print axioms proved
end Go.Proofs.YtigdlmpjijhpaaaGreat.cacheAgain
