/-
  CacheRows: whatever the input, the call returns true and leaves its arguments as they were. No condition.
-/
import Derived.Test.YtigdlmpjijhpaaaGreatK47
import Derived.Test.YtigdlmpjijhpaaaGreatRows
import Derived.Test.YtigdlmpjijhpaaaGreatO0CacheRows
import Derived.Test.YtigdlmpjijhpaaaGreatO1CacheRows
import Derived.Test.YtigdlmpjijhpaaaGreatO2CacheRows
import Derived.WalkKit
import Derived.ProofKit
import Derived.OpenShut
import Derived.ShutString
import Derived.ChangeOld
import Derived.Below
import Derived.Deep.Matrix
set_option linter.all false
namespace Go.Proofs.YtigdlmpjijhpaaaGreat.Ax
open Go Go.Proofs
set_option maxRecDepth 100000
theorem cAhead(a b:Ky):xy Tryz.prog 35 [.ag (jl a),.ag (jl b)] (bl (ltK a b)):=λh=>by
 refine zj Tryz.f35 [.tmp 4] 24 rfl rfl rfl rfl rfl rfl (by decide) (⟨_,_,⟨rfl,rfl⟩,.refl⟩) λB=>?_
 simp only[go_sem,jl]
 cases c:decide (a.1<b.1)
 ·cases d:a.1==b.1
  ·simp only[go_sem,c,d,qv]
   refine zn ?_<;>(simp only[go_sem,ltK,c,d,Bool.false_or,Bool.false_and]<;>try rfl)
  ·simp only[go_sem,c,d,qv]
   refine zn ?_<;>(simp only[go_sem,ltK,c,d,Bool.false_or,Bool.true_and]<;>try rfl)
 ·simp only[go_sem,c,qv]
  refine zn ?_<;>(simp only[go_sem,ltK,c,Bool.true_or]<;>try rfl)
set_option maxHeartbeats 4000000 in
theorem cCacheRows(h:List Ob)(s:Setup)(a:SA)(k:SIn h s a)(f0:SFit0 s)(x:AV)(l:List Cm)(Y:SlOf h x 16 (l.map ZT)):
  ACalls Tryz.prog 7 [jg s a,x] h λr h'=>r=bl true/\h'=h:=by
 refine zj Tryz.f7 [.tmp 4] 87 rfl rfl rfl rfl rfl rfl (by decide) (⟨_,_,⟨rfl,rfl⟩,.refl⟩) λB=>?_
 simp only[go_sem,k.w.one,k.e.one,k.c.one,k.g.one,k.r.one,k.t.one]
 refine zh (kib _) ?_
 rintro _ S ⟨rfl,rfl⟩
 have G:∀M,SIn (h++M) s a:=λM=>k.app M
 simp only[go_sem,(G _).ones]
 refine zh (YCa _ s a (G _) f0.fit) ?_
 rintro _ S ⟨rfl,rfl⟩
 have ho:=(Jm (h:=h) s).ones
 cases α:z6 s
 ·simp only[go_sem,W2a,zA,jF,(G _).ones]
  refine zh (keb _ s a (G _) x l (Y.app _)) ?_
  rintro _ S ⟨rfl,I⟩
  rw[I]
  cases hf:(jYa s && decide (l.length<=40))
  ·simp only[go_sem,qv]
   refine zn ?_<;>(simp only[go_sem]<;>try rfl)
  ·simp only[go_sem,qv,kjb]
   refine zn ?_<;>(simp only[go_sem]<;>try rfl)
 ·simp only[go_sem,ho,(G _).ones]
  refine zh (keb _ s a (G _) x l (Y.app _)) ?_
  rintro _ S ⟨rfl,I⟩
  rw[I]
  cases hf:(jYa s && decide (l.length<=40))
  ·simp only[go_sem,qv]
   refine zn ?_<;>(simp only[go_sem]<;>try rfl)
  ·rw[zq,decide_eq_true_eq] at hf
   obtain⟨N,ε⟩:=hf
   have f:=f0.few N
   have P:=qdb N
   simp only[go_sem,qv,ho,bne_self_eq_false]
   refine zh (xbb _ s f α zZa (z0a s) x l (Y.app _) (by omega) P) ?_
   rintro _ S ⟨rfl,I⟩
   rw[I]
   clear I
   have j:=z5a l (z0a s)
   obtain⟨X,hX⟩:∃X,X=(ku s zZa l).1:=⟨_,rfl⟩
   rw[<-hX] at j⊢
   have θ:=j.len3 P
   simp only[go_sem,ho]
   obtain⟨E,o⟩:∃E,E=h++[Ob.box 30 (qg s a),Qo s X]:=⟨_,rfl⟩
   have b0:E[h.length]? =some (.box 30 (qg s a)):=by rw[o,zK rfl];rfl
   have b1:E[h.length+1]? =some (Qo s X):=by rw[o,zG (k:=1) rfl];rfl
   rw[<-o]
   have k0:SIn E s a:=by rw[o];exact G _
   have Z:Pre h E:=⟨_,o,zl rfl (zD rfl)⟩
   clear o
   refine zO (by decide) (λm T H=>∃n:Nat,n<=X.rows.length/\Pre E H/\T 2= .ptr h.length 0/\T 5=bl true/\T 6= .ptr (h.length+1) 0/\T 8=i64 n/\m=X.rows.length - n) X.rows.length
    ⟨0,by omega,.refl,by simp only[go_sem],by simp only[go_sem],by simp only[go_sem],by(simp only[go_sem]<;>rfl),rfl⟩ ?_
   rintro m T H ⟨n,hn,C,t2,t5,t6,t8,rfl⟩
   have R:=C.sin k0
   have c0:∀M,(H++M)[h.length]? =some (.box 30 (qg s a)):=λM=>ze (C.get b0)
   have V:∀M,(H++M)[h.length+1]? =some (Qo s X):=λM=>ze (C.get b1)
   have K:=C.get b1
   simp only[go_sem,t6,t8,K,zb]
   refine ways (λe=>?_) (λe=>?_)
   ·have v:=dlt e
    have b:=Zq je v
    have u:(n:Int)<X.rows.length:=by omega
    have q:=j.val _ (zx v)
    have F:=j.fl f _ (zx v)
    have ζ:=j.bk.few
    obtain⟨r,hr⟩:∃r,r=X.rows[n]:=⟨_,rfl⟩
    rw[<-hr] at b q F
    simp only[go_sem,t6,t8,K,b,u,zb,Int.toNat_natCast,zf,je,vf,List.cons_append,List.nil_append]
    refine zQ rfl [] 0 [(2,0,[]),(3,0,[]),(5,0,[]),(7,0,[]),(0,0,[]),(1,0,[]),(4,0,[]),(6,0,[]),(8,0,[]),(9,0,[0]),(10,0,[]),(11,0,[]),(12,0,[]),(13,0,[]),(14,0,[]),(15,0,[]),(16,0,[]),(18,0,[]),(19,0,[]),(23,0,[]),(25,0,[]),(26,0,[]),(17,0,[]),(20,0,[]),(21,0,[]),(22,0,[]),(24,0,[]),(27,0,[]),(28,0,[]),(29,0,[]),(30,0,[]),(31,0,[]),(32,0,[]),(33,0,[]),(34,0,[]),(35,0,[])] rfl (by decide) (by decide) ?_
    cases J:decide ((n:Int)>0)
    ·simp only[go_sem,t2,t6,t8,c0,V,J,b,u,R.ones,zb,Int.toNat_natCast,zf,je,vf,List.cons_append,List.nil_append]
     refine zh (ztb _ s a (R.app _) f (BX X.bk) X.bk.evs r.1.worker r.1.week ⟨rfl,λ_=>rfl⟩ (by omega)) ?_
     rintro _ U ⟨rfl,i⟩
     rw[i]
     clear i
     have D:AV.ag (vf (qi s X.bk.evs r.1.worker r.1.week).1++[.sl 2 ((qi s X.bk.evs r.1.worker r.1.week).2.map xW)])= .ag (je r):=by
      show AV.ag (je (qi s X.bk.evs (qY r).1 (qY r).2))=_
      rw[<-q]
     rw[D]
     simp only[go_sem]
     refine zh (khb _ r F) ?_
     rintro _ U ⟨rfl,i⟩
     rw[i]
     clear i
     simp only[go_sem,t8,J,qv]
     exact⟨X.rows.length - (n+1),by omega,n+1,by omega,C.app (zl rfl (zD rfl)),t2,t5,t6,qn (by omega) rfl,rfl⟩
    ·have W:0<n:=by have:=of_decide_eq_true J;omega
     have A:n - 1<X.rows.length:=by omega
     have d:=Zq je A
     have y:=Vu j.srt A v (by omega)
     obtain⟨p,O⟩:∃p,p=X.rows[n - 1]:=⟨_,rfl⟩
     rw[<-O, <-hr] at y
     rw[<-O] at d
     have z:IntKind.wrap .i64 ((n:Int) - 1)=((n - 1:Nat):Int):=K4 W (by omega)
     have Q:((n - 1:Nat):Int)<X.rows.length:=by omega
     simp only[go_sem,t2,t6,t8,c0,V,J,b,d,u,Q,z,R.ones,zb,Int.toNat_natCast,zf,je,vf,List.cons_append,List.nil_append]
     refine zh (ztb _ s a (R.app _) f (BX X.bk) X.bk.evs r.1.worker r.1.week ⟨rfl,λ_=>rfl⟩ (by omega)) ?_
     rintro _ U ⟨rfl,i⟩
     rw[i]
     clear i
     have D:AV.ag (vf (qi s X.bk.evs r.1.worker r.1.week).1++[.sl 2 ((qi s X.bk.evs r.1.worker r.1.week).2.map xW)])= .ag (je r):=by
      show AV.ag (je (qi s X.bk.evs (qY r).1 (qY r).2))=_
      rw[<-q]
     rw[D]
     simp only[go_sem]
     refine zh (khb _ r F) ?_
     rintro _ U ⟨rfl,i⟩
     rw[i]
     clear i
     simp only[go_sem,t6,t8,c0,V,J,qv,b,d,u,Q,z,zb,Int.toNat_natCast,zf,je,vf,List.cons_append,List.nil_append]
     refine zh (cAhead (qY p) (qY r) _) ?_
     rintro _ U ⟨rfl,i⟩
     rw[i,y]
     clear i
     simp only[go_sem,t8,qv]
     exact⟨X.rows.length - (n+1),by omega,n+1,by omega,C.app (zl rfl (zD rfl)),t2,t5,t6,qn (by omega) rfl,rfl⟩
   ·have η:=xr e
    simp only[go_sem,t5]
    obtain⟨L,rfl,_⟩:=C
    obtain⟨L2,rfl,_⟩:=Z
    rw[zr]
    refine zn ?_<;>(simp only[go_sem]<;>try rfl)
end Go.Proofs.YtigdlmpjijhpaaaGreat.Ax
namespace Go.Proofs.YtigdlmpjijhpaaaGreat.cacheRows
open Go.ChangeShapes Go.WideShapes Go.ChangeAt Go.RowKit
open Go.ChangeMaps (open_string shut_string)
theorem own:ownKnob Tryz.prog.godebug=none:=by kernel_rfl
theorem laidOut:laidOutB Tryz.prog=true:=by kernel_rfl
def IsRow(k:IntKind)(w:World)(a:Option Addr)(len cap:Nat)(b:List Int):Prop:=
 (a=none/\len=0/\cap=0/\b=[])∨
 ∃x,a=some x/\len<=cap/\cap<=maxLen/\b.length=cap/\(∀i,i<b.length->w.cell? (x.add i)=some (.int k (b.getD i 0)))/\∀n∈b,(Lit.int k n).wf=true
theorem walk(b:Value)(c:Value)(w:World)(h:Ax.InSet w b)(i:Ax.InCms w c):
  Calls Tryz.prog 7 #[b,c] w λe w'=>e= .returned (.bool true)/\Below w.heap.size w w':=by
 obtain⟨s,a,g,ks,f⟩:=h
 obtain⟨x,l,d,sl⟩:=i
 exact Ax.run_law (Ax.cCacheRows [] s a ks f x l sl) ⟨_,_,rfl,g,_,_,rfl,d,rfl⟩
set_option maxRecDepth 100000 in
theorem lifted(os:Os)(started:os.Started)(H:Type)(enc:TypeId × Value->H):
  ReturnsInHanded {} Tryz.checked os 7 .any (Rows.cacheRowsSpec.pre6 enc Tryz.prog Tryz.f7 Rows.cacheRowsRow.domain false) (Rows.cacheRowsSpec.post enc Tryz.prog Tryz.f7 false true false false):=by
 refine returnsInHanded_of_change (C:=Tryz.checked) own started (by kernel_rfl) Tryz.func7
  (ChangeSpec.witness6 (enc:=enc) (C:=Tryz.checked) false ⟨#[], #[.agg #[.int .i64 0,.slice none 0 0,.int .i64 0,.int .i64 0,.slice none 0 0,.slice none 0 0,.slice none 0 0,.int .i64 0,.int .i64 0,.int .i64 0,.int .i64 0,.int .i64 0,.int .i64 0,.int .i64 0,.int .i64 0,.int .i64 0,.int .i64 0,.int .i64 0,.slice none 0 0,.int .i64 0,.int .i64 0,.int .i64 0,.slice none 0 0],.slice none 0 0],[]⟩ 8 (by kernel_rfl) (by kernel_rfl) (by kernel_rfl) (by kernel_rfl)) ?_
 intro W base args ds gs before b y s _
 have a:∀(j:Nat) t v,Tryz.f7.params[j]? =some t->args[j]? =some v->Value.okWide Tryz.prog W .any base t v:=b
 have k:=y
 obtain⟨p,q,i,F,rfl,N,B⟩:=y
 have w:DataW.TrodAll enc Tryz.prog W 0 (λ_=>true) true Tryz.f7.params.toList args.toList ds p:=i
 rw[Tryz.params7] at w a
 obtain⟨v0,M,R,D,I,Q,o,rfl,rfl,h0,L⟩:=trodAll_cons w
 obtain⟨v1,O,U,P,p1,T,rfl,rfl,rfl,u,G⟩:=trodAll_cons L
 obtain⟨rfl,rfl,rfl⟩:=trodAll_nil G
 obtain rfl:args= #[v0,v1]:=by cases args;simp_all
 obtain⟨rfl,rfl⟩:=trodVars_none F
 have k0:=h0
 have r:∀x∈I,x.block<W.heap.size:=by obtain⟨m,n⟩:=k0;exact DataW.trod_lt m _ _ _ n
 have E:=Ax.setup_in (a 0 30 v0 rfl rfl) h0
 have k1:=u
 have l:∀x∈p1,x.block<W.heap.size:=by obtain⟨m,n⟩:=k1;exact DataW.trod_lt m _ _ _ n
 obtain⟨d,f,c,rfl⟩:=okWide_slice Tryz.underlying61 (a 1 61 v1 rfl rfl)
 have K:=(by obtain⟨z,J⟩:=u;exact Ax.cms_in (v:= .slice d f c) (by simpa [Value.cells] using J):Ax.InCms W (.slice d f c))
 clear i b
 refine(walk v0 (.slice d f c) W E K).mono λe S ⟨A,g⟩=>?_
 subst A
 exact⟨_,rfl,_,_,_,[],_,[],k,trodAll_mk1 (shut_bool Tryz.underlying4 _),(trodAll_cons_mk (Below.trod laidOut (by kernel_rfl) (of_decide_eq_true (by kernel_rfl)) k0 g r) (trodAll_cons_mk (Below.trod laidOut (by kernel_rfl) (of_decide_eq_true (by kernel_rfl)) k1 g l) trodAll_mk0)),rfl,g.frame _,λh=>by cases h⟩
theorem over:Rows.cacheRowsRow.holds Tryz.pinned (OpenSpec.ofChange Rows.cacheRowsSpec):=
 OpenClaim.holds_of_wide 7 Tryz.f7 rfl rfl rfl rfl rfl rfl rfl ⟨rfl,rfl,rfl,rfl,rfl⟩ rfl rfl rfl rfl rfl (by kernel_rfl) Tryz.func7 (cacheRowsJ.rest cacheRowsJ.may cacheRowsJ.lift cacheRowsJ.make)
  (of_decide_eq_true (by kernel_rfl)) (by unfold Func.isWrapper;first|(rw[if_pos (by decide+kernel)];kernel_rfl)|(rw[if_neg (by decide+kernel)];exact⟨rfl,rfl⟩))
  (λos started H enc _=>lifted os started H enc)
theorem proved:Rows.CacheRowsSaid:=over
#print axioms proved
end Go.Proofs.YtigdlmpjijhpaaaGreat.cacheRows
