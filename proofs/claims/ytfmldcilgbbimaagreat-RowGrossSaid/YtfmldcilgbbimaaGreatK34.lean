/-
  Joined.
-/
import Derived.Test.YtfmldcilgbbimaaGreatK33
import Derived.Lib.AppendZerosOnto
import Derived.Lib.Walk
import Derived.Lib.SliceRun
import Derived.Lib.Hide
import Derived.Test.YtfmldcilgbbimaaGreatK31
set_option linter.unusedSimpArgs false
set_option linter.unusedVariables false
namespace Go.Proofs.YtfmldcilgbbimaaGreat.Ax
open Go Go.RowKit
section
variable {P:Program}
theorem W8 {g:Operand} {j:Array Tmp} {assign body:Code} {Q:Exit->Act->World->Prop} {a:Act} {w:World} {n c:Nat} {i:Array Value}
  (p:a.eval g= .func (.func c) #[] i) (o:∀args w,(callFunc c args).run P w= .ok (.enter c args) w)
  (h:∀(fn:FuncId) (rec:LoopState->Option Code->Loop),rec=(λst k=>{ state:=st,pending:=k,fn,tmps:=a.tmps,params:=j,assign,body,defers:=w.heap.size })->
   CallsIn Fence.wide (n - 1) P c (#[.func (.yield (w.heap.size+1)) #[] #[]]++i) ((w.alloc (.deferred (some []))).alloc (.loop (rec .ready none))) λe l=>(∃v,e= .returned v)/\
    l.heap[w.heap.size+1]? =some (.loop (rec .ready none))/\Q .normal { a with defers:={ target:= .collected w.heap.size,args:= #[] }::a.defers } (l.putObj (w.heap.size+1) (.loop (rec .exhausted none)))):
  (Code.rangeFunc g j assign body).wpIn Fence.wide n P Q a w:=by
 refine wpIn_rangeFunc ?_
 intro fn m
 obtain ⟨rec,b⟩:∃rec:LoopState->Option Code->Loop,rec=λst k=>{ state:=st,pending:=k,fn,tmps:=a.tmps,params:=j,assign,body,defers:=w.heap.size }:=⟨_,rfl⟩
 obtain ⟨f,d⟩:∃f,(w.alloc (.deferred (some []))).alloc (.loop (rec .ready none))=f:=⟨_,rfl⟩
 have h:=h fn rec b
 rw[d] at h
 refine ⟨w.heap.size+1,[{ target:= .collected w.heap.size,args:= #[] }],f,{ target:= .fn (.func c) i,args:= #[.func (.yield (w.heap.size+1)) #[] #[]] },f,c,
  #[.func (.yield (w.heap.size+1)) #[] #[]]++i,f,?_,?_,?_,?_,λh=>(by cases h),?_⟩
 ·rw[<-d,b];exact run_enterLoop_outer _ _ _ _ _
 ·simp only[resolve,p]
  simp[go_sem]
 ·intro s _;exact trivial
 ·simp[invoke,go_sem,o]
 ·refine h.mono ?_
  rintro e t ⟨⟨v,rfl⟩,r,q⟩
  exact ⟨none,_,by have:=run_endLoop (P:=P) r (by rw[b];simp);rw[b] at this ⊢;exact this,q⟩
end
def KeepB (n:Nat) (h h':List Ob):Prop:=∀(j:Nat) (ty:TypeId) (a:List AV),n<=j->h[j]? =some (.box ty a)->h'[j]? =some (.box ty a)
theorem KeepB.trans {n:Nat} {a b c:List Ob} (h:KeepB n a b) (k:KeepB n b c):KeepB n a c:=λj ty e d q=>k j ty e d (h j ty e d q)
theorem KeepB.raw {n i:Nat} {a:List Ob} {l o ks us o'} (b:a[i]? =some (.raw l o ks us)):KeepB n a (a.set i (.raw l o' ks us)):=λj ty c _ q=>by
 have:i≠j:=λe=>by rw[e,q] at b;cases b
 rw[List.getElem?_set_ne this];exact q
theorem KeepB.mono {n m:Nat} {a b:List Ob} (h:KeepB n a b) (d:n<=m):KeepB m a b:=λj ty c e q=>h j ty c (by omega) q
def y7a (P:Program) (c:FuncId) (b:List AV) (Rd:List Ob->Prop) (xs:List AV):Prop:=
 ∀ (l:Nat) (K:Nat->List Ob->Prop) (a:List Ob),K 0 a->(∀i h' M,NoRes M->K i h'->K i (h'++M))->(∀i h',K i h'->Rd h')->(∃h',K xs.length h'/\ResK a h')->(∀i h',K i h'->a.length<=h'.length)->
   (∀i x h',xs[i]? =some x->K i h'->J8 P l [x] h' λh''=>K (i+1) h''/\KeepB a.length h' h'')->ACalls P c (.v (.func (.yield l) #[] #[])::b) a λ_ h'=>K xs.length h'
def RawK (h h':List Ob):Prop:=∀(j l:Nat) (o:Obj) (ks:List AV) (us:List Value),h[j]? =some (.raw l o ks us)->h'[j]? =some (.raw l o ks us)
def kFa (N:Nat) (T:Env):Env:=λi=>if i<N then T i else .bad
theorem kGa (N:Nat) (T:Env) (i:Nat):kFa N T i=if i<N then T i else .bad:=id rfl
section
variable {P:Program} {N b:Nat} {T:Env} {h:List Ob} {ds:List Deferred}
theorem jSa {T:Env} {c:Ctx} {a:Act} (j:kN c T a):∀(n:Nat) (us:List Value),us.length=n->(∀i,i<n->us[i]? =some (a.tmps.getD i undef))->ARs c ((List.range n).map T) us:=λn us h g=>
 YF (by simp[h]) λk x b=>by
  rw[List.getElem?_map] at b
  cases e:(List.range n)[k]? with
  | none=>rw[e] at b;cases b
  | some i=>
    rw[e] at b
    injection b with b
    obtain ⟨f,d⟩:=List.getElem?_eq_some_iff.1 e
    rw[List.getElem_range] at d
    subst d b
    rw[List.length_range] at f
    exact ⟨_,g _ f,j k⟩
theorem jTa {T:Env} {c:Ctx}:∀ {n:Nat} {us:List Value},ARs c ((List.range n).map T) us->us.length=n/\∀i,i<n->∃u,us[i]? =some u/\AR c (T i) u:=λ{n us} k=>by
 have b:=xr k
 rw[List.length_map,List.length_range] at b
 refine ⟨b.symm,λi d=>?_⟩
 obtain ⟨u,e,a⟩:=kF k i (by simpa using d)
 refine ⟨u,e,?_⟩
 have:nth ((List.range n).map T) i=T i:=Z2 (by rw[List.getElem?_map,List.getElem?_range d];rfl)
 rw[this] at a
 exact a
theorem kHa {b:FuncId} (k1:J7 P b=true):∀args w,(callFunc b args).run P w= .ok (.enter b args) w:=λargs w=>by
 have a:∃fn,P.funcs[b]? =some fn/\fn.name≠ "runtime.NumGoroutine" /\fn.body.isSome=true:=by
  unfold J7 at k1
  split at k1
  ·rename_i fn a
   simp only[Bool.and_eq_true,bne_iff_ne,ne_eq] at k1
   exact ⟨fn,a,k1.1,k1.2⟩
  ·cases k1
 obtain ⟨fn,g,c,e⟩:=a
 have f5:(fn.name== "runtime.NumGoroutine")=false:=by simpa using c
 have f:fn.body.isNone=false:=by cases d:fn.body<;>simp[d] at e⊢
 simp only[callFunc,Sem.run_bind,run_program,g,f,f5,Bool.false_eq_true,if_false,Result.andThen_ok,Sem.run_pure]
theorem jUa {n m l:Nat} {f:FuncId} {tmps:Array Value} {assign body:Code} {w:World} {R:Ending->World->Prop} (k:RoundIn Fence.wide n P l f tmps assign body w R):RoundIn Fence.wide m P l f tmps assign body w R:=
 ⟨k.1,λc a _=>k.2 c a (room_wide _)⟩
theorem XT {p:Nat} {g:Operand} {assign body:Code} {gf:FuncId} {lb:List AV} {xs:List AV} (hp:p<N) (χ:J7 P gf=true) (hg:ev T g= .fn (.func gf) [] lb) {Rd:List Ob->Prop} (hseq:y7a P gf lb Rd xs)
  (K:Nat->List Ob->Prop) (J:Nat->AV->Env->List Ob->Prop)
  (hK0:∀M,NoRes M->K 0 (h++M)) (happ:∀i h' M,NoRes M->K i h'->K i (h'++M)) (hrd:∀i h',K i h'->Rd h') (hKex:∀M,NoRes M->∃h',K xs.length h'/\ResK (h++M) h'/\RawK (h++M) h')
  (X:∀i h' j l o ks us o',h.length<=j->K i h'->h'[j]? =some (.raw l o ks us)->K i (h'.set j (.raw l o' ks us)))
  (ζ:∀i x H c j l o ks us o',h.length<=j->J i x H c->c[j]? =some (.raw l o ks us)->J i x H (c.set j (.raw l o' ks us)))
  (ο:∀b l i x h',xs[i]? =some x->K i h'->RWp P N b l assign (λe H c=>e= .normal/\J i x H c/\RawK h' c/\KeepB h.length h' c) (upd (kFa N T) p x) h')
  (β:∀b l i x H c,xs[i]? =some x->J i x H c->RWp P N b l body (λe _ h3=>e= .normal/\K (i+1) h3/\RawK c h3/\KeepB h.length c h3) H c):
  Zl P N b ds (.rangeFunc g #[p] assign body) (λe ds' T' h'=>e= .normal/\T'=T/\∃D id:Nat,ds'=⟨.collected D, #[]⟩::ds/\h.length<=id/\h'[id]? =some (.raw D (.deferred (some [])) [] [])/\K xs.length h') T h:=λφ hu w g0 a r=>by
 have hgv:=qu r.t g
 rw[hg] at hgv
 obtain ⟨us0,η,e1,e2,e3⟩:=hgv
 have e2:us0.toList=[]:=e2
 have e2:us0= #[]:=by simpa using e2
 subst e2
 refine (wpIn_wide (n:=1)).1 (W8 e1 (kHa χ) ?_)
 intro fn rec E
 obtain ⟨D,hD⟩:∃D,D=w.heap.size:=⟨_,rfl⟩
 obtain ⟨l,hl⟩:∃l,l=D+1:=⟨_,rfl⟩
 obtain ⟨ks,hks⟩:∃ks,ks=(List.range N).map T:=⟨_,rfl⟩
 obtain ⟨us,τ⟩:∃us,us=a.tmps.toList:=⟨_,rfl⟩
 have ψ:ARs (ctx w g0 (fill φ h)) ks us:=by
  rw[hks,τ]
  refine jSa r.t N _ (by rw[Array.length_toList];exact r.n) λi hi=>?_
  rw[Array.getElem?_toList,Array.getD_eq_getD_getElem?]
  rw[Array.getElem?_eq_getElem (by rw[r.n];exact hi)]
  rfl
 have k1:=V8 (g:=g0) r.ok r.hB (.deferred (some [])) (ks:=[]) (us:=[]) rfl
 have k2:=V8 k1.ok k1.size (.loop (rec .ready none)) (ARs.le k1.le _ _ ψ)
 have k12:=k1.trans k2
 rw[<-hD] at k12
 have hs1:(w.alloc (.deferred (some []))).heap.size=l:=by rw[World.size_alloc,hl,hD]
 rw[hs1] at k12
 obtain ⟨L,s⟩:∃L,L=h++[.raw D (.deferred (some [])) [] [],.raw l (.loop (rec .ready none)) ks us]:=⟨_,rfl⟩
 have hfl:fill φ L=fill φ h++[.raw D (.deferred (some [])) [] []]++[.raw l (.loop (rec .ready none)) ks us]:=by rw[s,q8 hu];simp
 rw[<-hfl] at k12
 obtain ⟨W1,hW1⟩:∃W1,W1=(w.alloc (.deferred (some []))).alloc (.loop (rec .ready none)):=⟨_,rfl⟩
 rw[<-hW1] at k12⊢
 have hp1:Pre h L:=⟨_,s,zg rfl (zj rfl)⟩
 have α:L.length=h.length+2:=by rw[s];simp
 have z:∀st O,(Loop.params (rec st O))= #[p]/\(rec st O).tmps=a.tmps/\(rec st O).assign=assign/\(rec st O).body=body/\(rec st O).state=st/\(rec st O).pending=O/\(rec st O).fn=fn:=λst O=>by rw[E];exact ⟨rfl,rfl,rfl,rfl,rfl,rfl,rfl⟩
 obtain ⟨KK,y⟩:∃KK:Nat->List Ob->Prop,KK=λi h'=>K i h'/\h'[h.length]? =some (.raw D (.deferred (some [])) [] [])/\h'[h.length+1]? =some (.raw l (.loop (rec .ready none)) ks us):=⟨_,rfl⟩
 have hy:∀i x h',xs[i]? =some x->KK i h'->J8 P l [x] h' λh''=>KK (i+1) h''/\KeepB L.length h' h'':=by
  intro i x h' hx hkk I hu' B' w' g' vs hh hB hvs
  rw[y] at hkk
  obtain ⟨q1,U,q3⟩:=hkk
  obtain ⟨v,r0,rfl,hv,Y⟩:=hvs
  have Y:r0=[]:=Y
  subst Y
  obtain ⟨hb1,hb2,hb3⟩:=hh.ok _ _ (zK (φ:=I) q3 rfl)
  have hyr:=run_yield (P:=P) (w:=w') (args:= #[v]) hb2 (by rw[(z _ _).1];rfl)
  rw[(z _ _).1,(z _ _).2.1,(z _ _).2.2.1,(z _ _).2.2.2.1,(z _ _).2.2.2.2.2.2] at hyr
  refine ⟨_,_,_,_,hyr,λm=>jUa (n:=0) (roundIn_of_wpIn trivial ?_)⟩
  have htm:((#[p].zip #[v]).foldl (λtmps (t,a)=>tmps.setIfInBounds t a) a.tmps:Array Value)=a.tmps.setIfInBounds p v:=by simp
  have hT2:kN (ctx w' g' (fill I h')) (kFa N T) a:=λi=>by
   unfold kFa
   split
   ·rename_i hi
    rw[hks] at hb3
    obtain ⟨u,z1,z2⟩:=(jTa hb3).2 i hi
    rw[τ,Array.getElem?_toList] at z1
    rw[Array.getD_eq_getD_getElem?,z1]
    exact z2
   ·trivial
  have G:Rel N ⟨B',[]⟩ w' g' (fill I h') ⟨a.tmps.setIfInBounds p v,[]⟩ (upd (kFa N T) p x):=
   ⟨hh,hB,qfa (a:=a) hT2 hv (by rw[r.n];exact hp),rfl,by simp[r.n]⟩
  refine Code.wpIn_mono ?_ (ο B' l i x h' hx q1 I hu' w' g' _ (by first | (rw[htm];exact G) | simpa using G))
  rintro e a1 w1 ⟨H,c,⟨rfl,hmid,hrk,hkb⟩,g2,qk1,ι,C⟩
  have A:=hrk _ _ _ _ _ q3
  have δ:=C.ok.ok _ _ (zK (φ:=I) A rfl)
  have γ:{ rec .ready none with state:= .busy }=rec .busy none:=by rw[E]
  refine ⟨_,run_beginRound δ.2.1 (z _ _).2.2.2.2.1,?_⟩
  rw[γ]
  have kt:=Z6 C.ok C.size (zK (φ:=I) A rfl) (.loop (rec .busy none))
  rw[<-qS rfl] at kt
  have V:h.length+1<c.length:=(List.getElem?_eq_some_iff.1 A).1
  have Z:Rel N ⟨B',[]⟩ (w1.putObj l (.loop (rec .busy none))) g2 (fill I (c.set (h.length+1) (.raw l (.loop (rec .busy none)) ks us))) a1 H:=⟨kt.ok,kt.size,λi=>AR.le kt.le _ _ (ι.t i),ι.d,ι.n⟩
  refine Code.wpIn_mono ?_ (β B' l i x H _ hx (ζ _ _ _ _ _ _ _ _ _ _ (by omega) hmid A) I (hu'.mono (by rw[List.length_set];exact Qb C)) _ g2 a1 Z)
  rintro e a2 w3 ⟨T3,h3,⟨rfl,hk3,S,hkb3⟩,g3,qk2,qr2,Q⟩
  have q3s:(c.set (h.length+1) (.raw l (.loop (rec .busy none)) ks us))[h.length+1]? =some (.raw l (.loop (rec .busy none)) ks us):=List.getElem?_set_self V
  have B:=S _ _ _ _ _ q3s
  have θ:=Q.ok.ok _ _ (zK (φ:=I) B rfl)
  have W:=run_endRound (P:=P) none θ.2.1
  have σ:{ rec .busy none with state:=if (none:Option Code).isNone then .ready else .done,pending:=none }=rec .ready none:=by rw[E];rfl
  rw[σ] at W
  refine ⟨_,_,W,?_⟩
  have kt3:=Z6 Q.ok Q.size (zK (φ:=I) B rfl) (.loop (rec .ready none))
  rw[<-qS rfl] at kt3
  have hd1:=hrk _ _ _ _ _ U
  have hd2:(c.set (h.length+1) (.raw l (.loop (rec .busy none)) ks us))[h.length]? =some (.raw D (.deferred (some [])) [] []):=by
   rw[List.getElem?_set_ne (by omega)];exact hd1
  have hd3:=S _ _ _ _ _ hd2
  have hlt3:h.length+1<h3.length:=(List.getElem?_eq_some_iff.1 B).1
  refine ⟨h3.set (h.length+1) (.raw l (.loop (rec .ready none)) ks us),g3,rfl,⟨?_,((((hkb.trans (.raw A)).trans hkb3).trans (.raw B)).mono (by rw[α];omega))⟩,?_,(C.trans kt).trans (Q.trans kt3)⟩
  ·rw[y]
   exact ⟨X _ _ _ _ _ _ _ _ (by omega) hk3 B,by rw[List.getElem?_set_ne (by omega)];exact hd3,List.getElem?_set_self hlt3⟩
  ·exact ((qk1.trans (zJ A rfl)).trans qk2).trans (zJ B rfl)
 have hc:=hseq l KK L
  (by rw[y];exact ⟨by rw[s];exact hK0 _ (zg rfl (zj rfl)),by rw[s,zm rfl];rfl,by rw[s,zl (k:=1) rfl];rfl⟩)
  (λi h' M hM q=>by
   rw[y] at q⊢
   obtain ⟨q1,U,q3⟩:=q
   exact ⟨happ i h' M hM q1,zb U,zb q3⟩) (λi h' q=>by rw[y] at q;exact hrd i h' q.1)
  (by
   obtain ⟨h',z1,z2,z3⟩:=hKex [.raw D (.deferred (some [])) [] [],.raw l (.loop (rec .ready none)) ks us] (zg rfl (zj rfl))
   rw[y]
   exact ⟨h',⟨z1,z3 _ _ _ _ _ (by rw[zm rfl];rfl),z3 _ _ _ _ _ (by rw[zl (k:=1) rfl];rfl)⟩,by rw[s];exact z2⟩)
  (λi h' q=>by
   rw[y] at q
   have:=(List.getElem?_eq_some_iff.1 q.2.2).1
   omega) hy
 have ε:ARs (ctx W1 g0 (fill φ L)) (.v (.func (.yield l) #[] #[])::lb) (Value.func (.yield l) #[] #[]::η.toList):=⟨_,_,rfl,rfl,ARs.le k12.le _ _ e3⟩
 have F:=hc.2.2 φ (hu.mono hp1.len) b W1 g0 _ k12.ok k12.size ε
 refine callsIn_wide.2 ?_
 have υ:(Value.func (.yield l) #[] #[]::η.toList).toArray= #[.func (.yield (w.heap.size+1)) #[] #[]]++η:=by
  rw[hl,hD];simp
 rw[υ] at F
 refine F.mono λe W2 ⟨v,_,c,g2,q1,U,q5,q6,_⟩=>⟨⟨v,q1⟩,?_⟩
 rw[y] at U
 obtain ⟨U,q3,B⟩:=U
 have ν:=q6.ok.ok _ _ (zK (φ:=φ) B rfl)
 have R:=Z6 q6.ok q6.size (zK (φ:=φ) B rfl) (.loop (rec .exhausted none))
 rw[<-qS rfl] at R
 rw[<-hD, <-hl]
 have V:h.length+1<c.length:=(List.getElem?_eq_some_iff.1 B).1
 have f:=(k12.trans q6).trans R
 refine ⟨ν.2.1,_,T,c.set (h.length+1) (.raw l (.loop (rec .exhausted none)) ks us),⟨rfl,rfl,D,h.length,rfl,Nat.le_refl _,by rw[List.getElem?_set_ne (by omega)];exact q3,X _ _ _ _ _ _ _ _ (by omega) U B⟩,g2,?_,?_,f⟩
 ·have:ResK h L:=by rw[s];exact zT
  exact (this.trans q5).trans (zJ B rfl)
 ·exact ⟨f.ok,f.size,λi=>AR.le f.le _ _ (r.t i),by simp[r.d],r.n⟩
theorem qua:∀ {ar:List AV} {i:Nat},ar.length<=i->nth ar i= .bad
 | [],_,_=>rfl
 | x::ar,0,h=>absurd h (Nat.not_succ_le_zero _)
 | x::ar,i+1,h=>qua (ar:=ar) (Nat.le_of_succ_le_succ h)
theorem wla {B:Nat} {w:World} {g:Gh} {a:Act} {fn:Func} {r:AV} (s:HOk B w g h) (hB:B<=w.heap.size) (m:kN (ctx w g h) T a) (b:JC P T h fn.results.toList=some r):∃v,(results fn a.tmps).run P w= .ok v w/\AR (ctx w g h) r v:=by
 unfold JC at b
 cases f:kO P T h fn.results.toList with
 | none=>rw[f] at b;cases b
 | some xs=>
   rw[f] at b
   injection b with b
   obtain ⟨us,o,e⟩:=wN s hB m _ xs f
   have k:(fn.results.mapM (q1a a.tmps)).run P w= .ok us.toArray w:=by
    rw[Array.mapM_eq_mapM_toList]
    simp[o]
   have c:(results fn a.tmps).run P w= .ok (if h:us.toArray.size=1 then us.toArray[0] else .tuple us.toArray) w:=by
    rw[Xc,Sem.run_bind,k]
    rfl
   refine ⟨_,c,?_⟩
   have n:=xr e
   unfold vHa at b
   split at b
   ·rename_i x
    subst b
    obtain ⟨u,q,p,l,i⟩:=e
    have i:q=[]:=i
    subst i p
    simpa using l
   ·rename_i j
    subst b
    rw[dif_neg]
    ·exact ⟨us.toArray,rfl,by simpa using e⟩
    ·intro d
     have d:us.length=1:=by simpa using d
     rw[<-n] at d
     match xs,d with
     | [x],_=>exact j x rfl
def QDa (P:Program) (rs:List ResultVar) (h:List Ob) (R:AV->Prop):wF:=λe ds T h'=>
 (e= .ret∨e= .normal)/\(ds=[]∨∃D id:Nat,ds=[⟨.collected D, #[]⟩]/\h.length<=id/\h'[id]? =some (.raw D (.deferred (some [])) [] []))/\Pre h h'/\(∃r,(∀a,JC P T a rs=some r)/\r.lt h.length=true/\R r)
theorem Jq {f:FuncId} (fn:Func) {c:Code} {ar:List AV} {R:AV->Prop} (rs:List ResultVar) (N:Nat) (hf:P.funcs[f]? =some fn) (hb:fn.body=some c) (Z:fn.ntmps=N) (Q:fn.results.toList=rs) (W:ar.length.ble N=true) (H:J7 P f=true) (hex:∃r,R r)
  (k:∀b,Zl P N b [] c (QDa P rs h R) (nth ar) h):ACalls P f ar h λr h'=>R r/\h'=h:=by
 subst Z Q
 have W:=Nat.le_of_ble_eq_true W
 refine ⟨H,(let ⟨r,q⟩:=hex;⟨r,h,⟨q,rfl⟩,.refl⟩),λφ U B w g vs X hB j=>?_⟩
 have T:=xr j
 refine (callsIn_wide (n:=0)).1 (callsIn_of_wp_marks (F:=Fence.wide) hf hb trivial (wpIn_wide.2 ?_))
 have A:Rel fn.ntmps ⟨B,[]⟩ w g (fill φ h) { tmps:=vs.toArray++Array.replicate (fn.ntmps - vs.toArray.size) undef,defers:=[] } (nth ar):=by
  refine ⟨X,hB,λi=>?_,rfl,by simp;omega⟩
  by_cases hi:i<ar.length
  ·obtain ⟨u,e1,Y⟩:=kF j i hi
   have:(vs.toArray++Array.replicate (fn.ntmps - vs.toArray.size) undef).getD i undef=u:=by
    rw[Array.getD_eq_getD_getElem?,Array.getElem?_append_left (by simp;omega)]
    simp[e1]
   simp only[this]
   exact Y
  ·rw[qua (by omega)]
   trivial
 refine wp_mono (k B φ U w g _ A) λe E w' ⟨ds,T',h',⟨he,O,s,⟨r,K,I,G⟩⟩,g',ek,M,z⟩=>?_
 obtain ⟨L,rfl,hL⟩:=s
 have fin:∀(m:World) (C:List Ob),Good B w g (fill φ h) m g' (fill φ C)->kN (ctx m g' (fill φ C)) T' E->(∃L2,C=h++L2)->∃v,(results fn E.tmps).run P m= .ok v m/\∃v' S h'' g'',Ending.returned v= .returned v'/\(R S/\h''=h)/\ResK h h''/\Good B w g (fill φ h) m g'' (fill φ h'')/\AR (ctx m g'' (fill φ h'')) S v':=by
  rintro m C l J ⟨L2,rfl⟩
  obtain ⟨v,y,o⟩:=wla (fn:=fn) l.ok l.size J (K _)
  rw[q8 U] at l o
  refine ⟨v,y,v,r,h,g',rfl,⟨G,rfl⟩,.refl,l.drop rfl (by have:=X.ids;exact this),AR.less (xW m g' (fill φ h) L2) _ _ (by rw[qc];exact I) o⟩
 have main:LeavesInM Fence.wide 0 P fn E.tmps (λe w'=>∃v r h' g',e= .returned v/\(R r/\h'=h)/\ResK h h'/\Good B w g (fill φ h) w' g' (fill φ h')/\AR (ctx w' g' (fill φ h')) r v) E.defers .returning w':=by
  rw[M.d]
  rcases O with rfl | ⟨D,id,rfl,x,V⟩
  ·obtain ⟨v,y,o⟩:=fin w' _ z M.t ⟨L,rfl⟩
   exact ⟨v,y,o⟩
  ·have p:=z.ok.ok _ _ (zK (φ:=φ) V rfl)
   have a:=Z6 z.ok z.size (zK (φ:=φ) V rfl) (.deferred none)
   rw[<-qS rfl] at a
   obtain ⟨v,y,o⟩:=fin _ _ (z.trans a) (λi=>AR.le a.le _ _ (M.t i)) ⟨L.set (id - h.length) _,by rw[List.set_append_right _ _ x]⟩
   exact ⟨by simp,.inl ⟨D,_,rfl,run_takeDeferred p.2.1,v,y,o⟩⟩
 rcases he with rfl | rfl
 ·exact main
 ·exact main
end
theorem KeepB.app {n:Nat} {a M:List Ob}:KeepB n a (a++M):=λj ty b _ q=>zb q
theorem KeepB.setL {n i:Nat} {a:List Ob} {o:Ob} (b:i<n):KeepB n a (a.set i o):=λj ty d c q=>by
 rw[List.getElem?_set_ne (by omega)];exact q
theorem KeepB.setR {n i:Nat} {a:List Ob} {o:Ob} {ty e rows st} (b:a[i]? =some (.row ty e rows st)):KeepB n a (a.set i o):=λj ty d c q=>by
 have:i≠j:=λe=>by rw[e,q] at b;cases b
 rw[List.getElem?_set_ne this];exact q
theorem RawK.trans {a b c:List Ob} (h:RawK a b) (k:RawK b c):RawK a c:=λj l o ks us q=>k j l o ks us (h j l o ks us q)
theorem RawK.app {a M:List Ob}:RawK a (a++M):=λj l o ks us q=>zb q
theorem RawK.setB {i:Nat} {a:List Ob} {o:Ob} {ty cs} (b:a[i]? =some (.box ty cs)):RawK a (a.set i o):=λj l _ ks us q=>by
 have:i≠j:=λe=>by rw[e,q] at b;cases b
 rw[List.getElem?_set_ne this];exact q
theorem RawK.setR {i:Nat} {a:List Ob} {o:Ob} {ty e rows st} (b:a[i]? =some (.row ty e rows st)):RawK a (a.set i o):=λj l _ ks us q=>by
 have:i≠j:=λe=>by rw[e,q] at b;cases b
 rw[List.getElem?_set_ne this];exact q
section
variable {F:List (Nat × Ob)} {h0 h:List Ob} {i bty ty e:Nat} {rows rows':List (List AV)}
theorem LIn.raw (k:LIn F h0 h i bty ty e rows) {j l o ks us o'} (p:h0.length<=j) (a:h[j]? =some (.raw l o ks us)):LIn F h0 (h.set j (.raw l o' ks us)) i bty ty e rows:=by
 obtain ⟨k1,k2,k3,x,k4,k5⟩:=k
 have d:∀(z:Nat) t b,h[z]? =some (.box t b)->(h.set j (.raw l o' ks us))[z]? =some (.box t b):=λz t b q=>by
  have:j≠z:=λe=>by rw[e,q] at a;cases a
  rw[List.getElem?_set_ne this];exact q
 refine ⟨k1.set p rfl,k2,λz c=>⟨(k3 z c).1,(k3 z c).2.1,?_⟩,x,d _ _ _ k4,?_⟩
 ·obtain ⟨s,⟨t,b,m⟩,f⟩:=k3 z c
  rw[m] at f⊢
  exact d _ _ _ f
 ·rcases k5 with ⟨rfl,r⟩ | ⟨id,st,n,rfl,g⟩
  ·exact .inl ⟨rfl,r⟩
  ·refine .inr ⟨id,st,n,rfl,?_⟩
   have:j≠id:=λe=>by rw[e,g] at a;cases a
   rw[List.getElem?_set_ne this];exact g
theorem LIn.box (k:LIn F h0 h i bty ty e rows):∃x,h[i]? =some (.box bty [x]):=⟨_,k.at_.choose_spec.1⟩
theorem LIn.raws (k:LIn F h0 h i bty ty e rows) {M:List Ob} {o:Ob}:RawK h ((h++M).set i o):=by
 obtain ⟨x,a⟩:=k.box
 exact RawK.app.trans (.setB (zb a))
theorem LIn.raws_own (k:LIn F h0 h i bty ty e rows) {M:List Ob} {o o':Ob} {id:Nat} {b ee:Nat} {a:List (List AV)} {st:Nat} (c:h[id]? =some (.row b ee a st)):RawK h (((h++M).set id o').set i o):=by
 obtain ⟨x,f⟩:=k.box
 have d:id≠i:=λq=>by rw[q,f] at c;cases c
 exact (RawK.app.trans (.setR (zb c))).trans (.setB (by rw[List.getElem?_set_ne d];exact zb f))
theorem LIn.anyR (k:LIn F h0 h i bty ty e rows) (rows':List (List AV)):∃h',LIn F h0 h' i bty ty e rows'/\ResK h h'/\RawK h h':=by
 have q:=k.push_nil (M:=[.row ty e rows' 0]) (zj rfl) (id:=h.length) (Nat.le_refl _) (by rw[zm rfl];rfl)
 exact ⟨_,q,k.pre.resK q.pre,k.raws⟩
end
section
variable {P:Program} {N b:Nat} {T:Env} {h:List Ob} {ds:List Deferred}
def kIa (P:Program) (N b:Nat) (ds:List Deferred) [x:Held (Code × wF)] (T:Env) (h:List Ob):Prop:=Zl P N b ds x.it.1 x.it.2 T h
theorem qva {c:Code} {X:wF} (k:Zl P N b ds c X T h): @kIa P N b ds ⟨(c,X)⟩ T h:=k
theorem K5 {c:Code} {X Y:wF} (k:Zl P N b ds c X T h) (f:∀e ds T h,X e ds T h->Y e ds T h):Zl P N b ds c Y T h:=λφ i w g a r=>
 wp_mono (k φ i w g a r) λe m w' ⟨d,j,h',l,q⟩=>⟨d,j,h',f _ _ _ _ l,q⟩
end
section
variable {P:Program} {N b:Nat} {T:Env} {h:List Ob} {ds:List Deferred}
def zEa (P:Program) (N b:Nat) (ds:List Deferred) [x:Held (Code × wF)]:jl
 | .normal,T,h=> @kIa P N b ds x T h
 | e,T,h=>x.it.2 e ds T h
theorem kJa (x:Held (Code × wF)): @zEa P N b ds x .normal T h= @kIa P N b ds x T h:=id rfl
theorem kKa (c:Code) (X:wF): @zEa P N b ds ⟨(c,X)⟩ .ret T h=X .ret ds T h:=id rfl
attribute [go_sem] kJa kKa
theorem jk {c c':Code} {X:wF} (a:okC N c=true) (k:wpC P N ⟨b,ds⟩ c (@zEa P N b ds ⟨(c',X)⟩) T h):Zl P N b ds (.seq c c') X T h:=
 XS (qta (qr _ a k) λe T h q=>by cases e<;>exact q)
theorem K6 {c:Code} {X:wF} (a:okC N c=true) (k:wpC P N ⟨b,ds⟩ c (λe T h=>X e ds T h) T h):Zl P N b ds c X T h:=
 qta (qr _ a k) λe T h q=>q
theorem kLa {rs:List ResultVar} {h0 h':List Ob} {T:Env} {R:AV->Prop} {ds:List Deferred} (a:ds=[]∨∃D id:Nat,ds=[⟨.collected D, #[]⟩]/\h0.length<=id/\h'[id]? =some (.raw D (.deferred (some [])) [] [])) (c:Pre h0 h') {r:AV} (d:∀b,JC P T b rs=some r) (f:r.lt h0.length=true) (e:R r):QDa P rs h0 R .ret ds T h':=
 ⟨.inl rfl,a,c,⟨r,d,f,e⟩⟩
end
end Go.Proofs.YtfmldcilgbbimaaGreat.Ax
namespace Go.Proofs.YtfmldcilgbbimaaGreat.Ax
open Go Go.Proofs
set_option maxRecDepth 100000
theorem VU {v:List Spn} {i:Nat} {k:Int} (h:i<v.length):zQ k (v.drop i)=(if (v[i]).from_>k then [⟨k,(v[i]).from_⟩] else [])++zQ (v[i]).to_ (v.drop (i+1)):=by
 rw[List.drop_eq_getElem_cons h,zQ]
theorem K7 {α:Type} {L r:List α} {n:Nat} {x:α} (h:L.drop n=x::r):L[n]? =some x/\L.drop (n+1)=r:=by
 have a:(L.drop n)[0]? =some x:=by rw[h];rfl
 rw[List.getElem?_drop] at a
 refine ⟨a,?_⟩
 rw[<-List.drop_drop,h];rfl
theorem W9 {α:Type} {L:List α} {n:Nat} (h:L.drop n=[]) (a:n<=L.length):n=L.length:=by
 have:(L.drop n).length=0:=by rw[h];rfl
 rw[List.length_drop] at this
 omega
def XU (s:Spn):AV:= .ag (zD s)
theorem jVa (j:Nat) (v:List Spn) (P:v.length<1048576):y7a Tryz.prog 224 [.ptr j 0] (λh=>h[j]? =some (.box 55 [spv v])) ((zQ 0 v).map XU):=by
 intro l K J t d F o p H
 have hex:∃(r:AV) (h':List Ob),K ((zQ 0 v).map XU).length h'/\ResK J h':=by
  obtain ⟨h',q⟩:=o
  exact ⟨.tup [],h',q⟩
 have N:=F 0 J t
 refine zf Tryz.f224 [] 34 rfl rfl rfl rfl rfl rfl (by decide) (hex) λB=>?_
 simp only[go_sem,N,List.length_map]
 refine zk (by decide) (λm T h'=>∃(i n:Nat) (k:Int),i<=v.length/\n<=(zQ 0 v).length/\(zQ 0 v).drop n=zQ k (v.drop i)/\K n h'/\T 0= .v (.func (.yield l) #[] #[])/\T 3=i64 k/\T 6=spv v/\T 7=i64 v.length/\T 8=i64 i/\m=v.length - i) v.length
  ⟨0,0,0,by omega,by omega,rfl,t,by simp only[go_sem],by simp only[go_sem],by simp only[go_sem],by (simp only[go_sem]<;>rfl),by (simp only[go_sem]<;>rfl),rfl⟩ ?_
 rintro m T h' ⟨i,n,k,Q,L,a,g,t0,t3,t6,D,t8,rfl⟩
 simp only[go_sem,D,t8]
 refine ways (λe=>?_) (λe=>?_)
 ·have u:=dlt e
  have f:=yb u
  have G:(i:Int)<v.length:=by omega
  rw[VU u] at a
  obtain ⟨z,M⟩:∃z,z=v[i]:=⟨_,rfl⟩
  rw[<-M] at f a
  simp only[go_sem,t3,t6,t8,f,G,List.length_map,Int.toNat_natCast,Int.natCast_nonneg]
  cases q:decide (z.from_>k)
  ·rw[if_neg (of_decide_eq_false q),List.nil_append] at a
   simp only[go_sem,q,t3,t8,zM]
   exact ⟨v.length - (i+1),by omega,i+1,n,_,by omega,L,a,d _ _ _ (zj rfl) g,t0,rfl,t6,D,zy (by omega) rfl,rfl⟩
  ·rw[if_pos (of_decide_eq_true q)] at a
   obtain ⟨s,w⟩:=K7 a
   have E:n<(zQ 0 v).length:=(List.getElem?_eq_some_iff.1 s).1
   simp only[go_sem,q,t0,t3,t8,zM]
   refine yC (H n (XU ⟨k,z.from_⟩) _ (by rw[List.getElem?_map,s];rfl) (d _ _ _ (zj rfl) g)) ?_
   rintro I ⟨c,C⟩
   have A:I[h'.length]? =some (.box 134 (zD z)):=C _ _ _ (p _ _ g) (by rw[zm rfl];rfl)
   simp only[go_sem,q,t0,t3,t8,zM,A]
   exact ⟨v.length - (i+1),by omega,i+1,n+1,_,by omega,by omega,w,c,rfl,t6,D,zy (by omega) rfl,rfl⟩
 ·have O:=jd e
  have x:i=v.length:=by omega
  subst x
  rw[List.drop_length,zQ] at a
  simp only[go_sem,t3]
  refine ways (λy=>?_) (λy=>?_)
  ·rw[if_pos (of_decide_eq_true y)] at a
   obtain ⟨s,w⟩:=K7 a
   have E:n<(zQ 0 v).length:=(List.getElem?_eq_some_iff.1 s).1
   simp only[go_sem,t0,t3]
   refine yC (H n (XU ⟨k,32054400⟩) _ (by rw[List.getElem?_map,s];rfl) g) ?_
   rintro I ⟨c,_⟩
   have b:n+1=((zQ 0 v).map XU).length:=by
    rw[List.length_map];exact W9 w (by omega)
   rw[b,List.length_map] at c
   simp only[go_sem]
   exact ⟨_,rfl,.inl c⟩
  ·rw[if_neg (of_decide_eq_false y)] at a
   have b:n=((zQ 0 v).map XU).length:=by
    rw[List.length_map];exact W9 a L
   rw[b,List.length_map] at g
   simp only[go_sem]
   exact ⟨_,rfl,.inl g⟩
theorem wma (h:List Ob) (v:List Spn):ACalls Tryz.prog 175 [spv v] h λr h'=>r= .fn (.func 224) [] [.ptr h.length 0]/\h'=h++[.box 55 [spv v]]:=by
 refine zf Tryz.f175 [.tmp 2] 4 rfl rfl rfl rfl rfl rfl (by decide) (⟨_,_,⟨rfl,rfl⟩,zT⟩) λB=>?_
 simp only[go_sem]
 exact ⟨_,rfl,.inl ⟨rfl,rfl⟩⟩
theorem ZP (h:List Ob) (x y:AV) (a b:List Spn) (f:SlOf h x 2 (a.map zD)) (hy:SlOf h y 2 (b.map zD)) (ha:a.length<1048576) (hb:b.length<524288):
  ACalls Tryz.prog 105 [x,y] h λr h'=>r=spv (qf a b)/\h'=h:=by
 refine Jq Tryz.f105 [.tmp 4] 18 rfl rfl rfl rfl rfl rfl (⟨_,rfl⟩) λbs=>?_
 refine jk (by decide) ?_
 simp only[go_sem]
 refine jk (by decide) ?_
 simp only[go_sem]
 refine XS ?_
 refine jk (by decide) ?_
 simp only[go_sem]
 refine zd (yO _ y b (hy.app _) (by omega)) ?_
 rintro _ h3 ⟨rfl,rfl⟩
 simp only[go_sem]
 refine zd (wma _ (zw b)) ?_
 rintro _ h4 ⟨rfl,rfl⟩
 simp only[go_sem]
 have F:(zw b).length<1048576:=by have:=zq b;omega
 obtain ⟨v,R⟩:∃v,v=zw b:=⟨_,rfl⟩
 rw[<-R] at F⊢
 have γ:=ZK v 0
 have W:v.length<524288:=by have:=zq b;rw[R];omega
 have base:LIn [(h.length+1,.box 55 [spv v])] h (h++[.box 55 [.v (.slice none 0 0)],.box 55 [spv v]]) h.length 55 134 2 []:=⟨⟨_,rfl,zg rfl (zj rfl)⟩,Nat.le_refl _,(λz Q=>by
  cases Q with
  | head=>exact ⟨by show h.length+1≠h.length;omega,⟨_,_,rfl⟩,by rw[zl (k:=1) rfl];rfl⟩
  | tail _ Q=>cases Q),_,by rw[zm rfl];rfl,.inl ⟨rfl,rfl⟩⟩
 have w:qf a b=QV a (zQ 0 v):=by rw[R];rfl
 refine qva (Jp (K5 (XT (p:=10) (by decide) rfl (by simp only[go_sem]) (jVa (h.length+1) v F)
  (λn h'=>LIn [(h.length+1,.box 55 [spv v])] h h' h.length 55 134 2 (((zQ 0 v).take n).map zD))
  (λn x K d=>K 5= .ptr h.length 0/\∃s j,(zQ 0 v)[n]? =some s/\K 6= .ptr j 0/\d[j]? =some (.box 134 (zD s))/\LIn [(h.length+1,.box 55 [spv v])] h d h.length 55 134 2 (((zQ 0 v).take n).map zD))
  ?_ (λn h' M G k=>k.app G) (λn h' k=>k.keep (.head _)) ?_ ?_ ?_ ?_ ?_) ?_))
 ·exact λM G=>base.app G
 ·intro M G
  exact (base.app G).anyR _
 ·intro n h' j l o ks us o' S k I
  exact k.raw (Nat.le_trans (by rw[List.length_append];exact Nat.le_add_right _ _) S) I
 ·rintro n x K d j l o ks us o' S ⟨t5,s,m,U,O,H,k⟩ I
  refine ⟨t5,s,m,U,O,?_,k.raw (Nat.le_trans (by rw[List.length_append];exact Nat.le_add_right _ _) S) I⟩
  have:j≠m:=λe=>by rw[e,H] at I;cases I
  rw[List.getElem?_set_ne this];exact H
 ·intro Y l n x h' f k
  rw[List.getElem?_map] at f
  cases N:(zQ 0 v)[n]? with
  | none=>rw[N] at f;cases f
  | some s=>
    rw[N] at f
    injection f with f
    subst f
    refine yc (by decide) (by decide) ?_
    simp only[go_sem,kGa,XU]
    exact ⟨⟨s,h'.length,rfl,rfl,by rw[zm rfl];rfl,k.app (zj rfl)⟩,.app,.app⟩
 ·rintro Y l n x K d f ⟨t5,s,m,U,O,H,k⟩
  obtain ⟨V,c,t⟩:=k.at_
  refine K4 (yc (by decide) (by decide) ?_)
  have C:(((zQ 0 v).take n).length+1)*17<=140737488355328:=by rw[List.length_take];omega
  have u:((zQ 0 v).take n).map zD++[zD s]=((zQ 0 v).take (n+1)).map zD:=by
   obtain ⟨hn,N⟩:=List.getElem?_eq_some_iff.1 U
   rw[<-List.take_append_getElem hn,List.map_append,N];rfl
  have hi:=k.lt
  rcases t with ⟨rfl,E⟩ | ⟨id,st,X,rfl,A⟩
  ·rw[E,List.nil_append] at u
   have g:∀M,(d++M)[h.length]? =some (.box 55 [.v (.slice none 0 0)]):=λM=>zb c
   simp only[go_sem,t5,O,H,c,g]
   have q:=k.push_nil (M:=[.row 134 2 [zD s] 0,.row 134 2 [zD s] 0]) (zg rfl (zj rfl)) (id:=d.length+1) (by omega) (by rw[zl (k:=1) rfl];rfl)
   refine ⟨by rw[<-u];exact q,k.raws,KeepB.app.trans (.setL (by omega))⟩
  ·have Z:∀M,(d++M)[id]? =some (.row 134 2 (((zQ 0 v).take n).map zD) st):=λM=>zb A
   have g:∀M,(d++M)[h.length]? =some (.box 55 [.tl id st]):=λM=>zb c
   have T:id≠h.length:=λq=>by rw[q,c] at A;cases A
   have J:∀M o',((d++M).set id o')[h.length]? =some (.box 55 [.tl id st]):=λM o'=>by
    rw[List.getElem?_set_ne T];exact g M
   simp only[go_sem,t5,O,H,c,g,Z,J,List.length_map,C]
   have q:=k.push_own (M:=[.row 134 2 [zD s] 0]) (zj rfl) X A (rows':=((zQ 0 v).take (n+1)).map zD)
   refine ⟨by rw[<-u] at q ⊢;exact q,k.raws_own A,(KeepB.app.trans (.setR (zb A))).trans (.setL (by omega))⟩
 ·rintro e ds K d ⟨rfl,rfl,D,id,rfl,hid,B,k⟩
  rw[List.length_append] at hid
  rw[List.length_map,List.take_length] at k
  obtain ⟨V,c,t⟩:=k.at_
  have i:=k.pre
  refine ⟨rfl,(jk (by decide) ?_:Zl _ _ _ _ _ _ _ _)⟩
  simp only[go_sem,c]
  have P:SlOf d x 2 (a.map zD):=by
   obtain ⟨L,rfl,_⟩:=i
   exact f.app _
  refine zd (y3a _ x V a (zQ 0 v) P t.rows ha (by omega)) ?_
  rintro _ h6 ⟨rfl,rfl⟩
  simp only[go_sem]
  refine qva (K6 (by decide) ?_)
  simp only[go_sem]
  exact kLa (.inr ⟨D,id,rfl,by omega,B⟩) i (r:=spv (QV a (zQ 0 v))) (λ_=>rfl) (w9 _) (by rw[w])
theorem QEa (h:List Ob) (x:AV) (l:List Spn) (n:Int) (c:SlOf h x 2 (l.map zD)) (u:l.length<524288) (t:Fit n):
  ACalls Tryz.prog 262 [x,i64 n] h λr h'=>r=spv (ZM l n)/\h'=h:=by
 refine ZN ?_
 refine zf Tryz.f262 [.tmp 4] 16 rfl rfl rfl rfl rfl rfl (by decide) (⟨_,_,⟨.inl rfl,rfl⟩,.refl⟩) λB=>?_
 simp only[go_sem]
 refine ways (λe=>?_) (λe=>?_)
 ·simp only[go_sem]
  exact ⟨_,rfl,.inl ⟨.inr ⟨rfl,by unfold ZM;rw[if_pos (of_decide_eq_true e)];rfl⟩,rfl⟩⟩
 ·have a:¬ n<=0:=of_decide_eq_false e
  simp only[go_sem]
  refine zd (qra _ x l c (by omega)) ?_
  rintro _ v ⟨rfl,rfl⟩
  have g:=XK (l:=zw l) (λs i=>jI s i)
  have j:=zq l
  obtain ⟨m,d⟩:∃m:Int,m=if 32054400<n then 32054400 else n:=⟨_,rfl⟩
  have b:m=min n 32054400:=by rw[d];split<;>omega
  have o:0<m/\m<=32054400:=by omega
  have k:IntKind.wrap .i64 (qq (zw l) - m)=qq (zw l) - m:=zt (n:=qq (zw l) - m) (by unfold Fit;omega)
  simp only[go_sem, <-d,k]
  refine zd (VT _ x l _ c (by omega) (by unfold Fit;omega)) ?_
  rintro _ p ⟨rfl,rfl⟩
  simp only[go_sem]
  have f:(zE l (qq (zw l) - m)).length<=(zw l).length:=qW _ _
  refine zd (ZP _ x _ l (zE l (qq (zw l) - m)) c (qx _) (by omega) (by omega)) ?_
  rintro _ q ⟨rfl,rfl⟩
  simp only[go_sem]
  exact ⟨_,rfl,.inl ⟨.inl (by unfold ZM;rw[if_neg a, <-b];rfl),rfl⟩⟩
end Go.Proofs.YtfmldcilgbbimaaGreat.Ax
namespace Go.Proofs.YtfmldcilgbbimaaGreat.Ax
open Go Go.Proofs Go.RowKit
set_option maxRecDepth 100000
attribute [go_sem] yja yEa Qfa Qga ZKa w5a ZLa ZMa ZNa ZOa ZPa ZQa w6a w7a w8a w9a yaa yba ZRa ZSa ZTa ZUa ZVa ZWa ZXa ZYa xxa xya yca ZZa Z0a Z1a Z2a yda Z3a Z4a Q8a xza Z5a Z6a Z7a yea yfa vIa Z8a Z9a xAa yga vJa vKa Qaa xwa q4a Qba vLa Qca yha Qda yia ty3 ZFa Qea vMa Q9a Jaa yDa ty4 Jba ZGa Jca ty5 ZHa ZIa Jda Jea Jfa Jga vNa Jha Jia Jja Jka Jla ty9 ZJa Jma
theorem K8 (z:Array Value) (k:Nat):(Builtin.zeroCells z k).size=k*z.size:=by
 simp[Builtin.zeroCells]
theorem wna:∃i z,Tryz.prog.info? 134=some i/\i.zero=some z/\i.size=2/\i.bytes=16/\z.cells.size=2:=by
 have h:(Tryz.prog.info? 134).map (λi=>(i.zero,i.size,i.bytes))=some (some (.agg #[.int .i64 0,.int .i64 0]),2,16):=by kernel_rfl
 cases a:Tryz.prog.info? 134 with
 | none=>rw[a] at h;cases h
 | some i=>
   rw[a] at h
   injection h with h
   injection h with h1 h2
   injection h2 with h2 h3
   exact ⟨i,_,rfl,h1,h2,h3,rfl⟩
set_option maxHeartbeats 1000000 in
theorem kMa (n:Nat) (w:World) (x:n<=1000000000000):Calls Tryz.prog 223 #[.slice none 0 0,.int .i64 (n:Int)] w λe w'=>∃v,e= .returned v/\Below w.heap.size w w'/\w'.ownsRow w.heap.size 134 2 v 0 []/\∀b,v.ownBlock=some b->w.heap.size<=b:=by
 by_cases h0:n=0
 ·subst h0
  go_enter Tryz.func223,Tryz.ntmps223
  go_wp2
  go_ret
  exact ⟨_,rfl,Below.refl _ _,World.ownsRow_nil _ _ _ _,λb a=>by cases a⟩
 ·obtain ⟨i,z,m,r,t,a,k⟩:=wna
  have d:∀ty,(Builtin.append_ #[55,3] ty #[.slice none 0 0,.int .i64 (n:Int)]).run Tryz.prog w=
    .ok (.slice (some ⟨w.heap.size,0,none⟩) n (grownCap w n 0 134)) (w.drew.alloc (.cells (#[]++Builtin.zeroCells z.cells n++Builtin.zeroCells z.cells (grownCap w n 0 134 - n)) 134)):=λty=>by
   have h:=Lib.run_append_grow_zeros w 55 3 ty 134 i z .i64 .i64 Tryz.underlying55 Tryz.underlying3 m r none 0 0 [] (run_firstCells_none w.drew i.size 0 0 0) n (by omega) (by omega) (by omega) (by omega)
    (by rw[a];omega) (by rw[Nat.zero_add];exact growslice_fits (by omega) (by rw[a];omega))
   rw[Nat.zero_add] at h
   exact h
  have l:n<=grownCap w n 0 134:=grownCap_ge w _ _ _
  have c:=grownCap_le_maxLen w n 0 134 (by unfold maxLen;omega)
  obtain ⟨G,q⟩:∃G,G=grownCap w n 0 134:=⟨_,rfl⟩
  rw[<-q] at d l c
  obtain ⟨g,f⟩:∃g,g=(#[]++Builtin.zeroCells z.cells n++Builtin.zeroCells z.cells (G - n):Array Value):=⟨_,rfl⟩
  rw[<-f] at d
  have j:g.size=G*2:=by rw[f];simp only[Array.size_append,K8,k];simp;omega
  have p:G<=9223372036854775807:=by unfold maxLen at c;omega
  have o:(0:Int)<(n:Int):=by omega
  have s:=Lib.hid (show (w.drew.alloc (.cells g 134)).ownsRow w.heap.size 134 2 (.slice (some ⟨w.heap.size,0,none⟩) 0 G) 0 [] from
   ⟨rfl,.inr ⟨w.heap.size,G,g,rfl,Nat.le_refl _,heap_alloc_new w.drew _,Nat.zero_le _,c,j,by simp⟩⟩)
  have u:=Lib.hid (show Below w.heap.size w (w.drew.alloc (.cells g 134)) from (show Below w.heap.size w w.drew from ⟨rfl,rfl,rfl,Nat.le_refl _,λ_ _=>rfl⟩).alloc (Nat.le_refl _) _)
  clear q f t a r m j c k
  go_enter Tryz.func223,Tryz.ntmps223
  go_wp2_with (at_builtin;refine Lib.wpList_append_run _ rfl _ _ _ _ rfl _ _ rfl rfl _ _ (d _) ?_)
  go_ret
  exact ⟨_,rfl,u.out,s.out,λb a=>by injection a with a;subst a;exact Nat.le_refl _⟩
theorem QFa (h:List Ob) (n:Nat) (y:n<=1000000000000):ACalls Tryz.prog 223 [.v (.slice none 0 0),i64 n] h λr h'=>r= .tl h.length 0/\h'=h++[.row 134 2 [] 0]:=by
 refine ⟨rfl,⟨_,_,⟨rfl,rfl⟩,zT⟩,λφ s B w g vs z hB a=>?_⟩
 obtain ⟨l,A,rfl,f,p,k,rfl,d,c⟩:=a
 have f:l= .slice none 0 0:=f
 have d:p= .int .i64 (n:Int):=d
 have c:k=[]:=c
 subst f d c
 refine (kMa n w y).mono λe w' ⟨v,u,j,i,q⟩=>?_
 obtain ⟨k1,k2⟩:=yz z hB (ty:=134) (e:=2) (by decide) (xs:=[]) (λx t=>by cases t) 0 j ⟨i.1,i.2.imp id λ⟨g,cap,cur,m,o,r⟩=>⟨g,cap,cur,m,Nat.le_trans hB o,r⟩⟩ rfl q
 rw[qc] at k1 k2
 have b:fill φ (h++[.row 134 2 [] 0])=fill φ h++[.row 134 2 [] 0]:=q8 s
 rw[<-b] at k1 k2
 exact ⟨v,_,_,_,u,⟨rfl,rfl⟩,zT,k1,k2⟩
theorem VV (l:List Spn):((l.map zD).all λr=>r.length==2 && r.all AV.one)=true:=by
 rw[List.all_eq_true]
 intro r a
 obtain ⟨s,_,rfl⟩:=List.mem_map.1 a
 rfl
def vl (xs:List (AV × List Spn)):List Spn:=xs.flatMap (·.2)
theorem K9 {xs:List (AV × List Spn)} {k:Nat} (h:k<xs.length):vl (xs.take (k+1))=vl (xs.take k)++xs[k].2:=by
 unfold vl
 rw[<-List.take_append_getElem h,List.flatMap_append];simp
theorem qwa (xs:List (AV × List Spn)) (k:Nat):(vl (xs.take k)).length<=(vl xs).length:=by
 conv=>rhs;rw[<-List.take_append_drop k xs]
 simp only[vl,List.flatMap_append,List.length_append]
 omega
theorem kNa (h:List Ob) (p:AV) (xs:List (AV × List Spn)) (C:SlOf h p 1 (xs.map λq=>[q.1])) (G:∀q∈xs,SlOf h q.1 2 (q.2.map zD)) (K:xs.length<1048576) (M:(vl xs).length<1073741824):
  ACalls Tryz.prog 170 [p] h λr h'=>∃L,h'=h++L/\NoRes L/\New h 2 r ((vl xs).map zD) L:=by
 have hex:∃r h',(∃L,h'=h++L/\NoRes L/\New h 2 r ((vl xs).map zD) L)/\ResK h h':=
  ⟨.sl 2 _,_,⟨[],rfl,jF,λ_ _=>⟨rfl,λ_=>rfl⟩⟩,zT⟩
 have y:=C.rows
 refine zf Tryz.f170 [.tmp 2] 36 rfl rfl rfl rfl rfl rfl (by decide) (hex) λB=>?_
 simp only[go_sem,y,List.length_map]
 refine zk (by decide) (λm T h'=>∃i:Nat,i<=xs.length/\h'=h/\T 0=p/\T 3=i64 (vl (xs.take i)).length/\T 9=p/\T 10=i64 xs.length/\T 11=i64 i/\m=xs.length - i) xs.length
  ⟨0,by omega,rfl,by simp only[go_sem],by (simp only[go_sem]<;>rfl),by simp only[go_sem],by (simp only[go_sem]<;>rfl),by (simp only[go_sem]<;>rfl),rfl⟩ ?_
 rintro m T h' ⟨i,H,rfl,t0,t3,t9,t10,d,rfl⟩
 simp only[go_sem,t10,d]
 refine ways (λe=>?_) (λe=>?_)
 ·have b:=dlt e
  have c:(xs.map λq=>[q.1])[i]? =some [xs[i].1]:=by rw[List.getElem?_map,List.getElem?_eq_getElem b];rfl
  have u:(i:Int)<xs.length:=by omega
  have s:=G _ (List.getElem_mem b)
  have a:=K9 b
  have g:=qwa xs (i+1)
  obtain ⟨q,l⟩:∃q,q=xs[i]:=⟨_,rfl⟩
  rw[<-l] at c s a
  have k:=s.rows
  have t:=C.at (i:=i) (by rw[List.length_map];exact b)
  have o:=s.cells
  rw[a,List.length_append] at g
  have I:IntKind.wrap .i64 (((vl (xs.take i)).length:Int)+(q.2.length:Int))=((vl (xs.take (i+1))).length:Int):=by
   rw[a,List.length_append]
   exact (zt (n:=((vl (xs.take i)).length:Int)+(q.2.length:Int)) (by unfold Fit;omega)).trans (by omega)
  simp only[go_sem,t3,t9,d,t,c,y,u,o,k,I,List.length_map,Int.toNat_natCast,Int.natCast_nonneg]
  have J:decide (((vl (xs.take (i+1))).length:Int)<0)=false:=by rw[decide_eq_false_iff_not];omega
  simp only[go_sem,J,d]
  exact ⟨xs.length - (i+1),by omega,i+1,by omega,t0,rfl,t9,t10,zy (by omega) rfl,rfl⟩
 ·have E:=jd e
  have f:i=xs.length:=by omega
  subst f
  rw[List.take_length] at t3
  simp only[go_sem,t3]
  refine zd (QFa _ (vl xs).length (by omega)) ?_
  rintro _ F ⟨rfl,rfl⟩
  have v:=(C.app [.row 134 2 [] 0]).rows
  simp only[go_sem,t0,v,List.length_map]
  refine zk (by decide) (λm T F=>∃(i st:Nat),i<=xs.length/\F=h'++[.row 134 2 ((vl (xs.take i)).map zD) st]/\T 6= .tl h'.length st/\T 25=p/\T 26=i64 xs.length/\T 27=i64 i/\m=xs.length - i) xs.length
   ⟨0,0,by omega,rfl,by simp only[go_sem],by simp only[go_sem],by (simp only[go_sem]<;>rfl),by (simp only[go_sem]<;>rfl),rfl⟩ ?_
  clear t0 t9 t10 t3 d
  rintro m T F ⟨i,st,H,rfl,t6,t25,x,D,rfl⟩
  simp only[go_sem,x,D]
  refine ways (λe=>?_) (λe=>?_)
  ·have b:=dlt e
   have c:(xs.map λq=>[q.1])[i]? =some [xs[i].1]:=by rw[List.getElem?_map,List.getElem?_eq_getElem b];rfl
   have u:(i:Int)<xs.length:=by omega
   have s:=G _ (List.getElem_mem b)
   have a:=K9 b
   have g:=qwa xs (i+1)
   obtain ⟨q,l⟩:∃q,q=xs[i]:=⟨_,rfl⟩
   rw[<-l] at c s a
   have z:=(C.app [.row 134 2 ((vl (xs.take i)).map zD) st]).rows
   have k:=(s.app [.row 134 2 ((vl (xs.take i)).map zD) st]).rows
   have o:=s.cells
   have t:=(C.app [.row 134 2 ((vl (xs.take i)).map zD) st]).at (i:=i) (by rw[List.length_map];exact b)
   have A:=VV q.2
   rw[a,List.length_append] at g
   have w:((vl (xs.take i)).length+q.2.length)*17<=140737488355328:=by omega
   have j:(h'++[.row 134 2 ((vl (xs.take i)).map zD) st])[h'.length]? =some (.row 134 2 ((vl (xs.take i)).map zD) st):=by rw[zm rfl];rfl
   simp only[go_sem,t6,t25,D,t,A,c,z,u,o,k,w,j,List.length_map,Int.toNat_natCast,Int.natCast_nonneg]
   exact ⟨xs.length - (i+1),by omega,i+1,st+1,by omega,by rw[a,List.map_append],rfl,x,zy (by omega) rfl,rfl⟩
  ·have E:=jd e
   have f:i=xs.length:=by omega
   subst f
   simp only[go_sem,t6]
   exact ⟨_,rfl,.inl ⟨_,rfl,zj rfl,OwnS.new (h0:=h') (ty:=134) (.inr ⟨h'.length,st,Nat.le_refl _,rfl,by rw[List.take_length,zm rfl];rfl⟩) (Nat.le_refl _)⟩⟩
end Go.Proofs.YtfmldcilgbbimaaGreat.Ax
namespace Go.Proofs.YtfmldcilgbbimaaGreat.Ax
open Go Go.Proofs
set_option maxRecDepth 100000
theorem SIn.ones {h:List Ob} {s:Setup} {a:SA} (k:SIn h s a):AV.one a.w=true/\AV.one a.e=true/\AV.one a.c=true/\AV.one a.g=true/\AV.one a.r=true/\AV.one a.t=true:=⟨k.w.one,k.e.one,k.c.one,k.g.one,k.r.one,k.t.one⟩
structure Times (s:Setup):Prop where
 unit:1<=s.unit/\s.unit<=3600
 cap:60<=s.cap/\s.cap<=57600
 paidBreak:0<=s.paidBreak/\s.paidBreak<=86400
 autoAfter:0<=s.autoAfter/\s.autoAfter<=86400
 autoBreak:0<=s.autoBreak/\s.autoBreak<=86400
 nightFrom:0<=s.nightFrom/\s.nightFrom<=86400
 nightTo:0<=s.nightTo/\s.nightTo<=86400
 dayOver:0<=s.dayOver/\s.dayOver<=86400
 dayReg:0<=s.dayReg/\s.dayReg<=s.dayOver
 weekReg:0<=s.weekReg/\s.weekReg<=604800
theorem Q0 {s:Setup} (h:zz s=true):Times s:=by
 have h0:=wi h
 simp only[zz,xM,Bool.and_eq_true] at h
 have a:=h.1.2.1.1.2
 exact ⟨h0.1,h0.2,xo a (by simp),xo a (by simp),xo a (by simp),xo a (by simp),xo a (by simp),xo a (by simp),wC h.1.2.1.2,wC h.1.2.2⟩
def ZQ (s:Setup):List Spn:=if s.nightTo<s.nightFrom then [⟨0,s.nightTo⟩,⟨s.nightFrom,86400⟩] else [⟨s.nightFrom,s.nightTo⟩]
theorem wua {s:Setup} (t:Times s) {w:Spn} (h:w∈ZQ s):(0<=w.from_/\w.from_<=86400)/\0<=w.to_/\w.to_<=86400:=by
 have b:=t.nightFrom
 have a:=t.nightTo
 unfold ZQ at h
 split at h
 ·rcases List.mem_cons.1 h with rfl | h
  ·simp only;omega
  ·rw[List.mem_singleton] at h;subst h;simp only;omega
 ·rw[List.mem_singleton] at h;subst h;simp only;omega
theorem Yi (s:Setup):(ZQ s).length<=2:=by unfold ZQ;split<;>simp
theorem kYa (h:List Ob) (s:Setup) (a:SA) (k:SIn h s a):
  ACalls Tryz.prog 173 [qh s a] h λr h'=>r=spv (ZQ s)/\h'=h:=xy (by decide) (w9 _) <| by
 have hex:∃r h',(∃L,h'=h++L/\NoRes L/\New h 2 r ((ZQ s).map zD) L)/\ResK h h':=
  ⟨.sl 2 _,_,⟨[],rfl,jF,λ_ _=>⟨rfl,λ_=>rfl⟩⟩,zT⟩
 refine zf Tryz.f173 [.tmp 2] 21 rfl rfl rfl rfl rfl rfl (by decide) (hex) λB=>?_
 simp only[go_sem,k.ones]
 refine ways (λe=>?_) (λe=>?_)
 ·have b:ZQ s=[⟨0,s.nightTo⟩,⟨s.nightFrom,86400⟩]:=by unfold ZQ;rw[if_pos (of_decide_eq_true e)]
  rw[b]
  simp only[go_sem,k.ones]
  exact Qy (ty:=134) (x:= .tl (h.length+1) 0) (by simp only[go_sem]) ⟨_,rfl,zg rfl (zj rfl)⟩ (.inr ⟨_,_,by omega,rfl,by rw[zl (k:=1) rfl];rfl⟩)
 ·have b:ZQ s=[⟨s.nightFrom,s.nightTo⟩]:=by unfold ZQ;rw[if_neg (of_decide_eq_false e)]
  rw[b]
  simp only[go_sem,k.ones]
  exact Qy (ty:=134) (x:= .tl (h.length+1) 0) (by simp only[go_sem]) ⟨_,rfl,zg rfl (zj rfl)⟩ (.inr ⟨_,_,by omega,rfl,by rw[zl (k:=1) rfl];rfl⟩)
def yS (s:Setup) (d:Int):List Spn:=((ZQ s).filter λw=>decide (w.from_<w.to_)).map λw=>⟨d*86400+w.from_,d*86400+w.to_⟩
def vN (d:Int) (o:List Spn) (w:Spn):List Spn:=if w.from_<w.to_ then o++[⟨d*86400+w.from_,d*86400+w.to_⟩] else o
theorem Jt (d:Int):∀(l o:List Spn),l.foldl (vN d) o=o++(l.filter λw=>decide (w.from_<w.to_)).map λw=>⟨d*86400+w.from_,d*86400+w.to_⟩
 | [],o=>by simp
 | w::l,o=>by
   rw[List.foldl_cons,Jt d l,List.filter_cons]
   unfold vN
   by_cases h:w.from_<w.to_<;>simp[h]
theorem wva (F:List (Nat × Ob)) (h0 h:List Ob) (b:List Spn) (i j:Nat) (s:Setup) (a:SA) (k:LIn F h0 h i 55 134 2 (b.map zD)) (ks:SIn h s a) (t:Times s) (hj:(j,Ob.box 30 (zr s a))∈F) (hl:b.length<1099511627776) (d:Int) (hd:0<=d/\d<371):
  ACalls Tryz.prog 172 [i64 d,.ptr j 0,.ptr i 0] h λr h'=>r= .tup []/\LIn F h0 h' i 55 134 2 ((b++yS s d).map zD):=by
 have hex:∃r h',(r=AV.tup []/\LIn F h0 h' i 55 134 2 ((b++yS s d).map zD))/\ResK h h':=by
  obtain ⟨h',q1,q2⟩:=k.any ((b++yS s d).map zD)
  exact ⟨_,h',⟨rfl,q1⟩,q2⟩
 have I:h[j]? =some (.box 30 (zr s a)):=k.keep hj
 refine zf Tryz.f172 [] 33 rfl rfl rfl rfl rfl rfl (by decide) (hex) λB=>?_
 simp only[go_sem,I,ks.ones]
 refine zd (kYa _ s a ks) ?_
 rintro _ h4 ⟨rfl,rfl⟩
 have C:b++yS s d=((ZQ s).take (ZQ s).length).foldl (vN d) b:=by rw[List.take_length,Jt];rfl
 rw[C]
 have L:=Yi s
 have f:= @wua s t
 obtain ⟨v,Z⟩:∃v,v=ZQ s:=⟨_,rfl⟩
 rw[<-Z] at L f⊢
 obtain ⟨W,S⟩:∃W,W=(v.take v.length).foldl (vN d) b:=⟨_,rfl⟩
 rw[<-S]
 simp only[go_sem,List.length_map]
 refine zk (by decide) (λm T h'=>∃(n:Nat) (o:List Spn),n<=v.length/\o=(v.take n).foldl (vN d) b/\o.length<=b.length+n/\LIn F h0 h' i 55 134 2 (o.map zD)/\T 0=i64 d/\T 2= .ptr i 0/\T 7=spv v/\T 8=i64 v.length/\T 9=i64 n/\m=v.length - n) v.length
  ⟨0,b,by omega,rfl,by omega,k,by simp only[go_sem],by simp only[go_sem],by simp only[go_sem],by (simp only[go_sem]<;>rfl),by (simp only[go_sem]<;>rfl),rfl⟩ ?_
 rintro m T h' ⟨n,o,hn,N,ε,k',t0,t2,G,t8,t9,rfl⟩
 simp only[go_sem,t8,t9]
 refine ways (λe=>?_) (λe=>?_)
 ·have w:=dlt e
  have g:=yb w
  have P:(n:Int)<v.length:=by omega
  have hb:=f (List.getElem_mem w)
  have c:(v.take (n+1)).foldl (vN d) b=vN d o v[n]:=by rw[<-List.take_append_getElem w,List.foldl_append, <-N];rfl
  obtain ⟨z,X⟩:∃z,z=v[n]:=⟨_,rfl⟩
  rw[<-X] at g c hb
  have Q:IntKind.wrap .i64 (d*86400)=d*86400:=zt (n:=d*86400) (by unfold Fit;omega)
  have V:IntKind.wrap .i64 (d*86400+z.from_)=d*86400+z.from_:=zt (n:=d*86400+z.from_) (by unfold Fit;omega)
  have R:IntKind.wrap .i64 (d*86400+z.to_)=d*86400+z.to_:=zt (n:=d*86400+z.to_) (by unfold Fit;omega)
  simp only[go_sem,G,t9,g,P,List.length_map,Int.toNat_natCast,Int.natCast_nonneg]
  refine ways (λl=>?_) (λl=>?_)
  ·have l:=of_decide_eq_true l
   have u:vN d o z=o++[⟨d*86400+z.from_,d*86400+z.to_⟩]:=by unfold vN;rw[if_pos l]
   obtain ⟨x,U,H⟩:=k'.at_
   have p:∀M,(h'++M)[i]? =some (.box 55 [x]):=λM=>zb U
   have y:(o.length+1)*17<=140737488355328:=by omega
   rcases H with ⟨rfl,A⟩ | ⟨id,st,Y,rfl,E⟩
   ·simp only[go_sem,t0,t2,t9,p,Q,V,R]
    refine ⟨v.length - (n+1),by omega,n+1,_,by omega,c.symm,by rw[u];simp;omega,?_,G,t8,zy (by omega) rfl,rfl⟩
    rw[u,List.map_append,A]
    exact k'.push_nil (zg rfl (zg rfl (zj rfl))) (by omega) (by rw[zl (k:=2) rfl];rfl)
   ·have K:∀M,(h'++M)[id]? =some (.row 134 2 (o.map zD) st):=λM=>zb E
    have O:id≠i:=λq=>by rw[q,U] at E;cases E
    have D:∀M o',((h'++M).set id o')[i]? =some (.box 55 [.tl id st]):=λM o'=>by
     rw[List.getElem?_set_ne O];exact p M
    simp only[go_sem,t0,t2,t9,p,K,D,y,Q,V,R,List.length_map]
    refine ⟨v.length - (n+1),by omega,n+1,_,by omega,c.symm,by rw[u];simp;omega,?_,G,t8,zy (by omega) rfl,rfl⟩
    rw[u,List.map_append]
    exact k'.push_own (zg rfl (zj rfl)) Y E
  ·have l:=of_decide_eq_false l
   have u:vN d o z=o:=by unfold vN;rw[if_neg l]
   simp only[go_sem,t9]
   exact ⟨v.length - (n+1),by omega,n+1,_,by omega,c.symm,by rw[u];omega,by rw[u];exact k'.app (zj rfl),t0,t2,G,t8,zy (by omega) rfl,rfl⟩
 ·have β:=jd e
  have J:n=v.length:=by omega
  subst J
  rw[<-S] at N
  subst N
  simp only[go_sem]
  exact ⟨_,rfl,.inl ⟨rfl,k'⟩⟩
theorem kZa {o:List Int} {d:Int} (f:o.Pairwise (· < ·)) (h:∀x∈o,0<=x/\x<371) (i:0<=d/\d<371):(ZO o d).Pairwise (· < ·)/\∀x∈ZO o d,0<=x/\x<371:=by
 unfold ZO
 cases k:o.getLast? with
 | none=>
   refine ⟨by simp,λx c=>?_⟩
   have c:x=d:=by simpa using c
   subst c;exact i
 | some z=>
   simp only
   split
   ·rename_i l
    obtain ⟨q,rfl⟩:∃q,o=q++[z]:=by
     obtain ⟨q,j⟩:=List.getLast?_eq_some_iff.1 k
     exact ⟨q,j⟩
    refine ⟨?_,λx c=>?_⟩
    ·rw[List.pairwise_append]
     refine ⟨f,by simp,λa e b g=>?_⟩
     rw[List.mem_singleton] at g
     subst g
     rw[List.pairwise_append] at f
     rcases List.mem_append.1 e with e | e
     ·have:=f.2.2 a e z (by simp);omega
     ·rw[List.mem_singleton] at e;omega
    ·rcases List.mem_append.1 c with c | c
     ·exact h x c
     ·rw[List.mem_singleton] at c;subst c;exact i
   ·exact ⟨f,h⟩
theorem Yj {o:List Int} {a:Int} (c:o.Pairwise (· < ·)) (b:∀x∈o,0<=x/\x<371) (e:0<=a):∀k:Nat,a+k<=371->(Ku o a k).Pairwise (· < ·)/\∀x∈Ku o a k,0<=x/\x<371
 | 0,_=>⟨c,b⟩
 | k+1,h=>by
   obtain ⟨f,d⟩:=Yj c b e k (by omega)
   exact kZa f d (by omega)
theorem jO (l:List Spn):(zF l).Pairwise (· < ·)/\∀x∈zF l,0<=x/\x<371:=by
 have key:∀(v:List Spn) (o:List Int),o.Pairwise (· < ·)->(∀x∈o,0<=x/\x<371)->(v.foldl xi o).Pairwise (· < ·)/\∀x∈v.foldl xi o,0<=x/\x<371:=λv=>by
  induction v with
  | nil=>exact λo b a=>⟨b,a⟩
  | cons s v d=>
    intro o b a
    rw[List.foldl_cons]
    have c:=kv s.from_
    have e:=kv (s.to_ - 1)
    have:=Yj b a c.1 (xz (s.to_ - 1) - xz s.from_+1).toNat (by omega)
    exact d _ this.1 this.2
 exact key _ [] .nil (by simp)
theorem wwa {o:List Int} (e:o.Pairwise (· < ·)) (a:∀x∈o,0<=x/\x<371):o.length<=371:=by
 have d:o.Nodup:=e.imp λh=>by omega
 have:=Zf (b:=(List.range 371).map λ(k:Nat)=>(k:Int)) d λx c=>by
  have:=a x c
  exact List.mem_map.2 ⟨x.toNat,by rw[List.mem_range];omega,by omega⟩
 simpa using this
theorem kK (l:List Spn):(zF l).length<=371:=wwa (jO l).1 (jO l).2
def xj (s:Setup) (l:List Int):List Spn:=l.flatMap (yS s)
def qy (s:Setup) (l:List Spn):List Spn:=if zz s then QV l (xj s (zF l)) else []
theorem zIa (s:Setup) (d:Int):(yS s d).length<=2:=by
 unfold yS
 rw[List.length_map]
 have b:=List.length_filter_le (λw:Spn=>decide (w.from_<w.to_)) (ZQ s)
 have a:=Yi s
 omega
theorem ye (s:Setup):∀l:List Int,(xj s l).length<=2*l.length
 | []=>by simp[xj]
 | d::l=>by
   have a:=ye s l
   have b:=zIa s d
   unfold xj at a⊢
   rw[List.flatMap_cons,List.length_append,List.length_cons];omega
theorem Qz {l:List Int} {i:Nat} (h:i<l.length):(l.map zH)[i]? =some [i64 l[i]]:=by rw[List.getElem?_map,List.getElem?_eq_getElem h];rfl
theorem wxa (h:List Ob) (s:Setup) (a:SA) (k:SIn h s a) (f:SFit s) (x:AV) (l:List Spn) (O:SlOf h x 2 (l.map zD)) (N:l.length<1048576):
  ACalls Tryz.prog 104 [qh s a,x] h λr h'=>(r=spv (qy s l)∨r= .v (.slice none 0 0)/\qy s l=[])/\h'=h:=by
 have hex:∃r h',((r=spv (qy s l)∨r=AV.v (.slice none 0 0)/\qy s l=[])/\h'=h)/\ResK h h':=⟨_,_,⟨.inl rfl,rfl⟩,.refl⟩
 refine zf Tryz.f104 [.tmp 4] 30 rfl rfl rfl rfl rfl rfl (by decide) (hex) λB=>?_
 simp only[go_sem,k.ones]
 refine zd (c16 _ s a (k.app _) f) ?_
 rintro _ P ⟨rfl,I⟩
 rw[I]
 clear I P
 cases o:zz s
 ·have t:qy s l=[]:=by unfold qy;rw[o];rfl
  simp only[go_sem,o,zM,Bool.not_false]
  exact ⟨_,by simp only[go_sem],.inr ⟨h,_,rfl,rfl,rfl,.refl,.inr ⟨rfl,t⟩,rfl⟩⟩
 have t:qy s l=QV l (xj s (zF l)):=by unfold qy;rw[if_pos o]
 have S:=Q0 o
 simp only[go_sem,o,zM,Bool.not_true]
 refine zd (kDa _ x l (O.app _) N) ?_
 rintro _ P ⟨rfl,rfl⟩
 have i:=(jO l).2
 have C:=kK l
 have b:xj s (zF l)=xj s ((zF l).take (zF l).length):=by rw[List.take_length]
 have u:=ye s (zF l)
 rw[b] at t
 rw[b] at u
 obtain ⟨v,R⟩:∃v,v=zF l:=⟨_,rfl⟩
 rw[<-R] at i C t u⊢
 simp only[go_sem,List.length_map]
 obtain ⟨F,K⟩:∃F,F=[(h.length,Ob.box 30 (zr s a))]:=⟨_,rfl⟩
 have j:(h.length,Ob.box 30 (zr s a))∈F:=by rw[K];simp
 refine zk (by decide) (λm T h'=>∃n:Nat,n<=v.length/\LIn F h h' (h.length+1) 55 134 2 ((xj s (v.take n)).map zD)/\T 1=x/\T 5= .ptr (h.length+1) 0/\T 6= .fn (.func 172) [] [.ptr h.length 0,.ptr (h.length+1) 0]/\T 7= .sl 1 (v.map zH)/\T 16=i64 v.length/\T 17=i64 n/\m=v.length - n) v.length
  ⟨0,by omega,⟨⟨_,rfl,zg rfl (zj rfl)⟩,by omega,(λz y=>by rw[K,List.mem_singleton] at y;subst y;exact ⟨by simp,⟨_,_,rfl⟩,by rw[zm rfl];rfl⟩),_,by rw[zl (k:=1) rfl];rfl,.inl ⟨rfl,rfl⟩⟩,by simp only[go_sem],by simp only[go_sem],by simp only[go_sem],by simp only[go_sem],by (simp only[go_sem]<;>rfl),by (simp only[go_sem]<;>rfl),rfl⟩ ?_
 rintro m T h' ⟨n,V,q,t1,t5,t6,M,p,d,rfl⟩
 simp only[go_sem,p,d]
 refine ways (λe=>?_) (λe=>?_)
 ·have g:=dlt e
  have c:=Qz g
  have H:(n:Int)<v.length:=by omega
  have J:=i _ (List.getElem_mem g)
  have w:xj s (v.take (n+1))=xj s (v.take n)++yS s v[n]:=by unfold xj;rw[<-List.take_append_getElem g,List.flatMap_append];simp
  have D:=ye s (v.take n)
  rw[List.length_take] at D
  obtain ⟨z,y⟩:∃z,z=v[n]:=⟨_,rfl⟩
  rw[<-y] at c w J
  simp only[go_sem,t6,M,d,c,H,List.length_map,Int.toNat_natCast,Int.natCast_nonneg]
  refine zd (wva F h h' _ (h.length+1) h.length s a q (q.pre.sin k) S j (by omega) z J) ?_
  rintro _ W ⟨rfl,k6⟩
  rw[<-w] at k6
  simp only[go_sem,d]
  exact ⟨v.length - (n+1),by omega,n+1,by omega,k6,t1,t5,t6,M,p,zy (by omega) rfl,rfl⟩
 ·have U:=jd e
  have G:n=v.length:=by omega
  subst G
  obtain ⟨Q,E,A⟩:=q.at_
  simp only[go_sem,t1,t5,E]
  refine zd (y3a _ x Q l _ (q.pre.sl O) A.rows N (by omega)) ?_
  rintro _ W ⟨rfl,rfl⟩
  rw[<-t]
  simp only[go_sem]
  obtain ⟨L,X,_⟩:=q.pre
  rw[X]
  exact ⟨_,by simp only[go_sem],.inr ⟨h,_,rfl,rfl,yN _,.refl,.inl rfl,rfl⟩⟩
theorem Zia (h:List Ob) (s:Setup) (a:SA) (k:SIn h s a) (f:SFit s) (x:AV) (l:List Spn) (b:SlOf h x 2 (l.map zD)) (c:l.length<1048576):
  ACalls Tryz.prog 104 [qh s a,x] h λr h'=>r=spv (qy s l)/\h'=h:=
 ZN ((wxa h s a k f x l b c).mono λr h' ⟨q,e⟩=>⟨q.imp_right λq=>⟨q.1,by rw[q.2];rfl⟩,e⟩)
end Go.Proofs.YtfmldcilgbbimaaGreat.Ax
