import Derived.Test.YtigdlmpjijhpaaaGreatKA
import Derived.Test.YtigdlmpjijhpaaaGreatK34
import Derived.Lib.AppendZerosOnto
import Derived.Lib.Walk
import Derived.Lib.SliceRun
import Derived.Lib.Hide
import Derived.Test.YtigdlmpjijhpaaaGreatK31
set_option linter.all false
namespace Go.Proofs.YtigdlmpjijhpaaaGreat.Ax
open Go Go.RowKit
section
variable {P:Program}
theorem kna{g:Operand}{k:Array Tmp}{assign body:Code}{Q:Exit->Act->World->Prop}{a:Act}{w:World}{n c:Nat}{i:Array Value}
  (r:a.eval g= .func (.func c) #[] i) (p:∀args w,(callFunc c args).run P w= .ok (.enter c args) w)
  (h:∀(fn:FuncId) (rec:LoopState->Option Code->Loop),rec=(λst j=>{ state:=st,pending:=j,fn,tmps:=a.tmps,params:=k,assign,body,defers:=w.heap.size })->
   CallsIn Fence.wide (n - 1) P c (#[.func (.yield (w.heap.size+1)) #[] #[]]++i) ((w.alloc (.deferred (some []))).alloc (.loop (rec .ready none))) λe l=>(∃v,e= .returned v)/\
    l.heap[w.heap.size+1]? =some (.loop (rec .ready none))/\Q .normal { a with defers:={ target:= .collected w.heap.size,args:= #[] }::a.defers } (l.putObj (w.heap.size+1) (.loop (rec .exhausted none)))):
  (Code.rangeFunc g k assign body).wpIn Fence.wide n P Q a w:=by
 refine wpIn_rangeFunc ?_
 intro fn o
 obtain⟨rec,b⟩:∃rec:LoopState->Option Code->Loop,rec=λst j=>{ state:=st,pending:=j,fn,tmps:=a.tmps,params:=k,assign,body,defers:=w.heap.size }:=⟨_,rfl⟩
 obtain⟨d,f⟩:∃d,(w.alloc (.deferred (some []))).alloc (.loop (rec .ready none))=d:=⟨_,rfl⟩
 have h:=h fn rec b
 rw[f] at h
 refine⟨w.heap.size+1,[{ target:= .collected w.heap.size,args:= #[] }],d,{ target:= .fn (.func c) i,args:= #[.func (.yield (w.heap.size+1)) #[] #[]] },d,c,
  #[.func (.yield (w.heap.size+1)) #[] #[]]++i,d,?_,?_,?_,?_,λh=>(by cases h),?_⟩
 ·rw[<-f,b];exact run_enterLoop_outer _ _ _ _ _
 ·simp only[resolve,r]
  simp[go_sem]
 ·intro t _;exact trivial
 ·simp[invoke,go_sem,p]
 ·refine h.mono ?_
  rintro e s ⟨⟨v,rfl⟩,q,m⟩
  exact⟨none,_,by have:=run_endLoop (P:=P) q (by rw[b];simp);rw[b] at this ⊢;exact this,m⟩
end
def KeepB(n:Nat)(h h':List Ob):Prop:=∀(j:Nat) (ty:TypeId) (cs:List AV),n<=j->h[j]? =some (.box ty cs)->h'[j]? =some (.box ty cs)
theorem KeepB.trans{n:Nat}{a b c:List Ob}(h:KeepB n a b)(k:KeepB n b c):KeepB n a c:=λj ty cs d q=>k j ty cs d (h j ty cs d q)
theorem KeepB.raw{n i:Nat}{a:List Ob}{l o ks us o'}(hi:a[i]? =some (.raw l o ks us)):KeepB n a (a.set i (.raw l o' ks us)):=λj ty cs _ q=>by
 have:i≠j:=λe=>by rw[e,q] at hi;cases hi
 rw[zc this];exact q
theorem KeepB.mono{n m:Nat}{a b:List Ob}(h:KeepB n a b)(c:n<=m):KeepB m a b:=λj ty cs d q=>h j ty cs (by omega) q
def zdb(P:Program)(b:FuncId)(c:List AV)(Rd:List Ob->Prop)(xs:List AV):Prop:=
 ∀ (l:Nat) (K:Nat->List Ob->Prop) (a:List Ob),K 0 a->(∀i h' M,NoRes M->K i h'->K i (h'++M))->(∀i h',K i h'->Rd h')->(∃h',K xs.length h'/\ResK a h')->(∀i h',K i h'->a.length<=h'.length)->
   (∀i x h',xs[i]? =some x->K i h'->Yr P l [x] h' λh''=>K (i+1) h''/\KeepB a.length h' h'')->ACalls P b (.v (.func (.yield l) #[] #[])::c) a λ_ h'=>K xs.length h'
def RawK(h h':List Ob):Prop:=∀(j l:Nat) (o:Obj) (ks:List AV) (us:List Value),h[j]? =some (.raw l o ks us)->h'[j]? =some (.raw l o ks us)
def Xsa(N:Nat)(T:Env):Env:=λi=>if i<N then T i else .bad
theorem Xta(N:Nat)(T:Env)(i:Nat):Xsa N T i=if i<N then T i else .bad:=id rfl
section
variable {P:Program} {N b:Nat} {T:Env} {h:List Ob} {ds:List Deferred}
theorem Qia{T:Env}{c:Ctx}{a:Act}(h:wT c T a):∀(n:Nat) (us:List Value),us.length=n->(∀i,i<n->us[i]? =some (a.tmps.getD i undef))->ARs c ((List.range n).map T) us:=λn us j g=>
 vra (by simp[j]) λk x b=>by
  rw[zz] at b
  cases e:(List.range n)[k]? with
  | none=>rw[e] at b;cases b
  | some i=>
    rw[e] at b
    injection b with b
    obtain⟨f,d⟩:=zd.1 e
    rw[List.getElem_range] at d
    subst d b
    rw[jz] at f
    exact⟨_,g _ f,h k⟩
theorem Qja{T:Env}{c:Ctx}:∀ {n:Nat} {us:List Value},ARs c ((List.range n).map T) us->us.length=n/\∀i,i<n->∃u,us[i]? =some u/\AR c (T i) u:=λ{n us} k=>by
 have b:=wz k
 rw[zb,jz] at b
 refine⟨b.symm,λi hi=>?_⟩
 obtain⟨u,d,a⟩:=yO k i (by simpa using hi)
 refine⟨u,d,?_⟩
 have:nth ((List.range n).map T) i=T i:=KI (by rw[zz,List.getElem?_range hi];rfl)
 rw[this] at a
 exact a
theorem Xua{b:FuncId}(k1:Yq P b=true):∀args w,(callFunc b args).run P w= .ok (.enter b args) w:=λargs w=>by
 have a:∃fn,P.funcs[b]? =some fn/\fn.name≠ "runtime.NumGoroutine" /\fn.body.isSome=true:=by
  unfold Yq at k1
  split at k1
  ·rename_i fn a
   simp only[zq,bne_iff_ne,ne_eq] at k1
   exact⟨fn,a,k1.1,k1.2⟩
  ·cases k1
 obtain⟨fn,f,c,e⟩:=a
 have f5:(fn.name== "runtime.NumGoroutine")=false:=by simpa using c
 have g:fn.body.isNone=false:=by cases d:fn.body<;>simp[d] at e⊢
 simp only[callFunc,Sem.run_bind,run_program,f,g,f5,Bool.false_eq_true,if_false,Result.andThen_ok,Sem.run_pure]
theorem Qka{n m l:Nat}{f:FuncId}{tmps:Array Value}{assign body:Code}{w:World}{R:Ending->World->Prop}(k:RoundIn Fence.wide n P l f tmps assign body w R):RoundIn Fence.wide m P l f tmps assign body w R:=
 ⟨k.1,λc cs _=>k.2 c cs (room_wide _)⟩
theorem zka{p:Nat}{g:Operand}{assign body:Code}{gf:FuncId}{lb:List AV}{xs:List AV}(hp:p<N)(ρ:Yq P gf=true)(hg:ev T g= .fn (.func gf) [] lb){Rd:List Ob->Prop}(hseq:zdb P gf lb Rd xs)
  (K:Nat->List Ob->Prop) (Q:Nat->AV->Env->List Ob->Prop)
  (hK0:∀M,NoRes M->K 0 (h++M)) (ω:∀i h' M,NoRes M->K i h'->K i (h'++M)) (hrd:∀i h',K i h'->Rd h') (τ:∀M,NoRes M->∃h',K xs.length h'/\ResK (h++M) h'/\RawK (h++M) h')
  (R:∀i h' j l o ks us o',h.length<=j->K i h'->h'[j]? =some (.raw l o ks us)->K i (h'.set j (.raw l o' ks us)))
  (θ:∀i x H c j l o ks us o',h.length<=j->Q i x H c->c[j]? =some (.raw l o ks us)->Q i x H (c.set j (.raw l o' ks us)))
  (hass:∀b l i x h',xs[i]? =some x->K i h'->RWp P N b l assign (λe H c=>e= .normal/\Q i x H c/\RawK h' c/\KeepB h.length h' c) (upd (Xsa N T) p x) h')
  (η:∀b l i x H c,xs[i]? =some x->Q i x H c->RWp P N b l body (λe _ h3=>e= .normal/\K (i+1) h3/\RawK c h3/\KeepB h.length c h3) H c):
  XO P N b ds (.rangeFunc g #[p] assign body) (λe ds' T' h'=>e= .normal/\T'=T/\∃D id:Nat,ds'=⟨.collected D, #[]⟩::ds/\h.length<=id/\h'[id]? =some (.raw D (.deferred (some [])) [] [])/\K xs.length h') T h:=λφ hu w g0 a r=>by
 have ν:=jV r.t g
 rw[hg] at ν
 obtain⟨us0,α,e1,e2,e3⟩:=ν
 have e2:us0.toList=[]:=e2
 have e2:us0= #[]:=by simpa using e2
 subst e2
 refine(wpIn_wide (n:=1)).1 (kna e1 (Xua ρ) ?_)
 intro fn rec G
 obtain⟨D,hD⟩:∃D,D=w.heap.size:=⟨_,rfl⟩
 obtain⟨l,hl⟩:∃l,l=D+1:=⟨_,rfl⟩
 obtain⟨ks,ο⟩:∃ks,ks=(List.range N).map T:=⟨_,rfl⟩
 obtain⟨us,hus⟩:∃us,us=a.tmps.toList:=⟨_,rfl⟩
 have hark:ARs (ctx w g0 (fill φ h)) ks us:=by
  rw[ο,hus]
  refine Qia r.t N _ (by rw[qF];exact r.n) λi hi=>?_
  rw[qC,zU]
  rw[qH (by rw[r.n];exact hi)]
  rfl
 have k1:=Yh (g:=g0) r.ok r.hB (.deferred (some [])) (ks:=[]) (us:=[]) rfl
 have k2:=Yh k1.ok k1.size (.loop (rec .ready none)) (ARs.le k1.le _ _ hark)
 have k12:=k1.trans k2
 rw[<-hD] at k12
 have hs1:(w.alloc (.deferred (some []))).heap.size=l:=by rw[World.size_alloc,hl,hD]
 rw[hs1] at k12
 obtain⟨L,y⟩:∃L,L=h++[.raw D (.deferred (some [])) [] [],.raw l (.loop (rec .ready none)) ks us]:=⟨_,rfl⟩
 have hfl:fill φ L=fill φ h++[.raw D (.deferred (some [])) [] []]++[.raw l (.loop (rec .ready none)) ks us]:=by rw[y,xc hu];simp
 rw[<-hfl] at k12
 obtain⟨W1,hW1⟩:∃W1,W1=(w.alloc (.deferred (some []))).alloc (.loop (rec .ready none)):=⟨_,rfl⟩
 rw[<-hW1] at k12⊢
 have hp1:Pre h L:=⟨_,y,zl rfl (zD rfl)⟩
 have ζ:L.length=h.length+2:=by rw[y];simp
 have z:∀st J,(Loop.params (rec st J))= #[p]/\(rec st J).tmps=a.tmps/\(rec st J).assign=assign/\(rec st J).body=body/\(rec st J).state=st/\(rec st J).pending=J/\(rec st J).fn=fn:=λst J=>by rw[G];exact⟨rfl,rfl,rfl,rfl,rfl,rfl,rfl⟩
 obtain⟨KK,s⟩:∃KK:Nat->List Ob->Prop,KK=λi h'=>K i h'/\h'[h.length]? =some (.raw D (.deferred (some [])) [] [])/\h'[h.length+1]? =some (.raw l (.loop (rec .ready none)) ks us):=⟨_,rfl⟩
 have hy:∀i x h',xs[i]? =some x->KK i h'->Yr P l [x] h' λh''=>KK (i+1) h''/\KeepB L.length h' h'':=by
  intro i x h' hx hkk I hu' B' w' g' vs hh hB hvs
  rw[s] at hkk
  obtain⟨q1,W,q3⟩:=hkk
  obtain⟨v,r0,rfl,hv,β⟩:=hvs
  have β:r0=[]:=β
  subst β
  obtain⟨hb1,hb2,ψ⟩:=hh.ok _ _ (qL (φ:=I) q3 rfl)
  have ξ:=run_yield (P:=P) (w:=w') (args:= #[v]) hb2 (by rw[(z _ _).1];rfl)
  rw[(z _ _).1,(z _ _).2.1,(z _ _).2.2.1,(z _ _).2.2.2.1,(z _ _).2.2.2.2.2.2] at ξ
  refine⟨_,_,_,_,ξ,λm=>Qka (n:=0) (roundIn_of_wpIn trivial ?_)⟩
  have htm:((#[p].zip #[v]).foldl (λtmps (t,a)=>tmps.setIfInBounds t a) a.tmps:Array Value)=a.tmps.setIfInBounds p v:=by simp
  have hT2:wT (ctx w' g' (fill I h')) (Xsa N T) a:=λi=>by
   unfold Xsa
   split
   ·rename_i hi
    rw[ο] at ψ
    obtain⟨u,z1,z2⟩:=(Qja ψ).2 i hi
    rw[hus,qC] at z1
    rw[zU,z1]
    exact z2
   ·trivial
  have F:Rel N ⟨B',[]⟩ w' g' (fill I h') ⟨a.tmps.setIfInBounds p v,[]⟩ (upd (Xsa N T) p x):=
   ⟨hh,hB,yla (a:=a) hT2 hv (by rw[r.n];exact hp),rfl,by simp[r.n]⟩
  refine Code.wpIn_mono ?_ (hass B' l i x h' hx q1 I hu' w' g' _ (by first|(rw[htm];exact F)|simpa using F))
  rintro e a1 w1 ⟨H,c,⟨rfl,hmid,hrk,hkb⟩,g2,qk1,δ,E⟩
  have A:=hrk _ _ _ _ _ q3
  have ε:=E.ok.ok _ _ (qL (φ:=I) A rfl)
  have Y:{ rec .ready none with state:= .busy }=rec .busy none:=by rw[G]
  refine⟨_,run_beginRound ε.2.1 (z _ _).2.2.2.2.1,?_⟩
  rw[Y]
  have kt:=Qq E.ok E.size (qL (φ:=I) A rfl) (.loop (rec .busy none))
  rw[<-ji rfl] at kt
  have X:h.length+1<c.length:=(zd.1 A).1
  have ι:Rel N ⟨B',[]⟩ (w1.putObj l (.loop (rec .busy none))) g2 (fill I (c.set (h.length+1) (.raw l (.loop (rec .busy none)) ks us))) a1 H:=⟨kt.ok,kt.size,λi=>AR.le kt.le _ _ (δ.t i),δ.d,δ.n⟩
  refine Code.wpIn_mono ?_ (η B' l i x H _ hx (θ _ _ _ _ _ _ _ _ _ _ (by omega) hmid A) I (hu'.mono (by rw[zJ];exact Zz E)) _ g2 a1 ι)
  rintro e a2 w3 ⟨T3,h3,⟨rfl,hk3,S,χ⟩,g3,qk2,qr2,O⟩
  have q3s:(c.set (h.length+1) (.raw l (.loop (rec .busy none)) ks us))[h.length+1]? =some (.raw l (.loop (rec .busy none)) ks us):=zo X
  have B:=S _ _ _ _ _ q3s
  have Z:=O.ok.ok _ _ (qL (φ:=I) B rfl)
  have V:=run_endRound (P:=P) none Z.2.1
  have hrdy:{ rec .busy none with state:=if(none:Option Code).isNone then .ready else .done,pending:=none }=rec .ready none:=by rw[G];rfl
  rw[hrdy] at V
  refine⟨_,_,V,?_⟩
  have kt3:=Qq O.ok O.size (qL (φ:=I) B rfl) (.loop (rec .ready none))
  rw[<-ji rfl] at kt3
  have hd1:=hrk _ _ _ _ _ W
  have hd2:(c.set (h.length+1) (.raw l (.loop (rec .busy none)) ks us))[h.length]? =some (.raw D (.deferred (some [])) [] []):=by
   rw[zc (by omega)];exact hd1
  have hd3:=S _ _ _ _ _ hd2
  have hlt3:h.length+1<h3.length:=(zd.1 B).1
  refine⟨h3.set (h.length+1) (.raw l (.loop (rec .ready none)) ks us),g3,rfl,⟨?_,((((hkb.trans (.raw A)).trans χ).trans (.raw B)).mono (by rw[ζ];omega))⟩,?_,(E.trans kt).trans (O.trans kt3)⟩
  ·rw[s]
   exact⟨R _ _ _ _ _ _ _ _ (by omega) hk3 B,by rw[zc (by omega)];exact hd3,zo hlt3⟩
  ·exact((qk1.trans (qj A rfl)).trans qk2).trans (qj B rfl)
 have hc:=hseq l KK L
  (by rw[s];exact⟨by rw[y];exact hK0 _ (zl rfl (zD rfl)),by rw[y,zK rfl];rfl,by rw[y,zG (k:=1) rfl];rfl⟩)
  (λi h' M hM q=>by
   rw[s] at q⊢
   obtain⟨q1,W,q3⟩:=q
   exact⟨ω i h' M hM q1,ze W,ze q3⟩) (λi h' q=>by rw[s] at q;exact hrd i h' q.1)
  (by
   obtain⟨h',z1,z2,z3⟩:=τ [.raw D (.deferred (some [])) [] [],.raw l (.loop (rec .ready none)) ks us] (zl rfl (zD rfl))
   rw[s]
   exact⟨h',⟨z1,z3 _ _ _ _ _ (by rw[zK rfl];rfl),z3 _ _ _ _ _ (by rw[zG (k:=1) rfl];rfl)⟩,by rw[y];exact z2⟩)
  (λi h' q=>by
   rw[s] at q
   have:=(zd.1 q.2.2).1
   omega) hy
 have γ:ARs (ctx W1 g0 (fill φ L)) (.v (.func (.yield l) #[] #[])::lb) (Value.func (.yield l) #[] #[]::α.toList):=⟨_,_,rfl,rfl,ARs.le k12.le _ _ e3⟩
 have C:=hc.2.2 φ (hu.mono hp1.len) b W1 g0 _ k12.ok k12.size γ
 refine callsIn_wide.2 ?_
 have harr:(Value.func (.yield l) #[] #[]::α.toList).toArray= #[.func (.yield (w.heap.size+1)) #[] #[]]++α:=by
  rw[hl,hD];simp
 rw[harr] at C
 refine C.mono λe W2 ⟨v,_,c,g2,q1,W,q5,q6,_⟩=>⟨⟨v,q1⟩,?_⟩
 rw[s] at W
 obtain⟨W,q3,B⟩:=W
 have hraw:=q6.ok.ok _ _ (qL (φ:=φ) B rfl)
 have U:=Qq q6.ok q6.size (qL (φ:=φ) B rfl) (.loop (rec .exhausted none))
 rw[<-ji rfl] at U
 rw[<-hD, <-hl]
 have X:h.length+1<c.length:=(zd.1 B).1
 have f:=(k12.trans q6).trans U
 refine⟨hraw.2.1,_,T,c.set (h.length+1) (.raw l (.loop (rec .exhausted none)) ks us),⟨rfl,rfl,D,h.length,rfl,zp _,by rw[zc (by omega)];exact q3,R _ _ _ _ _ _ _ _ (by omega) W B⟩,g2,?_,?_,f⟩
 ·have:ResK h L:=by rw[y];exact resK_app
  exact(this.trans q5).trans (qj B rfl)
 ·exact⟨f.ok,f.size,λi=>AR.le f.le _ _ (r.t i),by simp[r.d],r.n⟩
theorem yCa:∀ {ar:List AV} {i:Nat},ar.length<=i->nth ar i= .bad
 | [],_,_=>rfl
 | x::ar,0,h=>absurd h (Nat.not_succ_le_zero _)
 | x::ar,i+1,h=>yCa (ar:=ar) (Nat.le_of_succ_le_succ h)
theorem VMa{B:Nat}{w:World}{g:Gh}{a:Act}{fn:Func}{r:AV}(o:HOk B w g h)(hB:B<=w.heap.size)(m:wT (ctx w g h) T a)(b:VE P T h fn.results.toList=some r):∃v,(results fn a.tmps).run P w= .ok v w/\AR (ctx w g h) r v:=by
 unfold VE at b
 cases f:y6 P T h fn.results.toList with
 | none=>rw[f] at b;cases b
 | some xs=>
   rw[f] at b
   injection b with b
   obtain⟨us,s,i⟩:=QY o hB m _ xs f
   have k:(fn.results.mapM (Zua a.tmps)).run P w= .ok us.toArray w:=by
    rw[Array.mapM_eq_mapM_toList]
    simp[s]
   have c:(results fn a.tmps).run P w= .ok (if h:us.toArray.size=1 then us.toArray[0] else .tuple us.toArray) w:=by
    rw[Yu,Sem.run_bind,k]
    rfl
   refine⟨_,c,?_⟩
   have p:=wz i
   unfold K6a at b
   split at b
   ·rename_i x
    subst b
    obtain⟨u,q,n,l,j⟩:=i
    have j:q=[]:=j
    subst j n
    simpa using l
   ·rename_i e
    subst b
    rw[dif_neg]
    ·exact⟨us.toArray,rfl,by simpa using i⟩
    ·intro d
     have d:us.length=1:=by simpa using d
     rw[<-p] at d
     match xs,d with
     | [x],_=>exact e x rfl
def jib(P:Program)(rs:List ResultVar)(h:List Ob)(R:AV->Prop):QE:=λe ds T h'=>
 (e= .ret∨e= .normal)/\(ds=[]∨∃D id:Nat,ds=[⟨.collected D, #[]⟩]/\h.length<=id/\h'[id]? =some (.raw D (.deferred (some [])) [] []))/\Pre h h'/\(∃r,(∀a,VE P T a rs=some r)/\r.lt h.length=true/\R r)
theorem Wx{f:FuncId}(fn:Func){c:Code}{ar:List AV}{R:AV->Prop}(rs:List ResultVar)(N:Nat)(hf:P.funcs[f]? =some fn)(hb:fn.body=some c)(hN:fn.ntmps=N)(K:fn.results.toList=rs)(V:ar.length.ble N=true)(M:Yq P f=true)(hex:∃r,R r)
  (k:∀b,XO P N b [] c (jib P rs h R) (nth ar) h):ACalls P f ar h λr h'=>R r/\h'=h:=by
 subst hN K
 have V:=qp V
 refine⟨M,(let ⟨r,q⟩:=hex;⟨r,h,⟨q,rfl⟩,.refl⟩),λφ W B w g vs T hB j=>?_⟩
 have S:=wz j
 refine(callsIn_wide (n:=0)).1 (callsIn_of_wp_marks (F:=Fence.wide) hf hb trivial (wpIn_wide.2 ?_))
 have z:Rel fn.ntmps ⟨B,[]⟩ w g (fill φ h) { tmps:=vs.toArray++Array.replicate (fn.ntmps - vs.toArray.size) undef,defers:=[] } (nth ar):=by
  refine⟨T,hB,λi=>?_,rfl,by simp;omega⟩
  by_cases hi:i<ar.length
  ·obtain⟨u,Z,e2⟩:=yO j i hi
   have:(vs.toArray++Array.replicate (fn.ntmps - vs.toArray.size) undef).getD i undef=u:=by
    rw[zU,Array.getElem?_append_left (by simp;omega)]
    simp[Z]
   simp only[this]
   exact e2
  ·rw[yCa (by omega)]
   trivial
 refine wp_mono (k B φ W w g _ z) λe C w' ⟨ds,T',h',⟨Y,O,y,⟨r,I,H,G⟩⟩,g',ek,J,A⟩=>?_
 obtain⟨L,rfl,hL⟩:=y
 have fin:∀(m:World) (E:List Ob),Good B w g (fill φ h) m g' (fill φ E)->wT (ctx m g' (fill φ E)) T' C->(∃L2,E=h++L2)->∃v,(results fn C.tmps).run P m= .ok v m/\∃v' X h'' g'',Ending.returned v= .returned v'/\(R X/\h''=h)/\ResK h h''/\Good B w g (fill φ h) m g'' (fill φ h'')/\AR (ctx m g'' (fill φ h'')) X v':=by
  rintro m E l Q ⟨L2,rfl⟩
  obtain⟨v,x,o⟩:=VMa (fn:=fn) l.ok l.size Q (I _)
  rw[xc W] at l o
  refine⟨v,x,v,r,h,g',rfl,⟨G,rfl⟩,.refl,l.drop rfl (by have:=T.ids;exact this),AR.less (vB m g' (fill φ h) L2) _ _ (by rw[ju];exact H) o⟩
 have main:LeavesInM Fence.wide 0 P fn C.tmps (λe w'=>∃v r h' g',e= .returned v/\(R r/\h'=h)/\ResK h h'/\Good B w g (fill φ h) w' g' (fill φ h')/\AR (ctx w' g' (fill φ h')) r v) C.defers .returning w':=by
  rw[J.d]
  rcases O with rfl|⟨D,id,rfl,p,U⟩
  ·obtain⟨v,x,o⟩:=fin w' _ A J.t ⟨L,rfl⟩
   exact⟨v,x,o⟩
  ·have s:=A.ok.ok _ _ (qL (φ:=φ) U rfl)
   have a:=Qq A.ok A.size (qL (φ:=φ) U rfl) (.deferred none)
   rw[<-ji rfl] at a
   obtain⟨v,x,o⟩:=fin _ _ (A.trans a) (λi=>AR.le a.le _ _ (J.t i)) ⟨L.set (id - h.length) _,by rw[zT _ _ p]⟩
   exact⟨by simp,.inl ⟨D,_,rfl,run_takeDeferred s.2.1,v,x,o⟩⟩
 rcases Y with rfl|rfl
 ·exact main
 ·exact main
end
theorem KeepB.app{n:Nat}{a M:List Ob}:KeepB n a (a++M):=λj ty cs _ q=>ze q
theorem KeepB.setL{n i:Nat}{a:List Ob}{o:Ob}(hi:i<n):KeepB n a (a.set i o):=λj ty cs b q=>by
 rw[zc (by omega)];exact q
theorem KeepB.setR{n i:Nat}{a:List Ob}{o:Ob}{ty e rows st}(hi:a[i]? =some (.row ty e rows st)):KeepB n a (a.set i o):=λj ty cs b q=>by
 have:i≠j:=λe=>by rw[e,q] at hi;cases hi
 rw[zc this];exact q
theorem RawK.trans{a b c:List Ob}(h:RawK a b)(k:RawK b c):RawK a c:=λj l o ks us q=>k j l o ks us (h j l o ks us q)
theorem RawK.app{a M:List Ob}:RawK a (a++M):=λj l o ks us q=>ze q
theorem RawK.setB{i:Nat}{a:List Ob}{o:Ob}{ty cs}(hi:a[i]? =some (.box ty cs)):RawK a (a.set i o):=λj l _ ks us q=>by
 have:i≠j:=λe=>by rw[e,q] at hi;cases hi
 rw[zc this];exact q
theorem RawK.setR{i:Nat}{a:List Ob}{o:Ob}{ty e rows st}(hi:a[i]? =some (.row ty e rows st)):RawK a (a.set i o):=λj l _ ks us q=>by
 have:i≠j:=λe=>by rw[e,q] at hi;cases hi
 rw[zc this];exact q
section
variable {F:List (Nat × Ob)} {h0 h:List Ob} {i bty ty e:Nat} {rows rows':List (List AV)}
theorem LIn.raw(k:LIn F h0 h i bty ty e rows){j l o ks us o'}(m:h0.length<=j)(a:h[j]? =some (.raw l o ks us)):LIn F h0 (h.set j (.raw l o' ks us)) i bty ty e rows:=by
 obtain⟨k1,k2,k3,x,k4,k5⟩:=k
 have d:∀(z:Nat) t cs,h[z]? =some (.box t cs)->(h.set j (.raw l o' ks us))[z]? =some (.box t cs):=λz t cs q=>by
  have:j≠z:=λe=>by rw[e,q] at a;cases a
  rw[zc this];exact q
 refine⟨k1.set m rfl,k2,λz b=>⟨(k3 z b).1,(k3 z b).2.1,?_⟩,x,d _ _ _ k4,?_⟩
 ·obtain⟨r,⟨t,cs,p⟩,c⟩:=k3 z b
  rw[p] at c⊢
  exact d _ _ _ c
 ·rcases k5 with⟨rfl,g⟩|⟨id,st,n,rfl,f⟩
  ·exact .inl ⟨rfl,g⟩
  ·refine .inr ⟨id,st,n,rfl,?_⟩
   have:j≠id:=λe=>by rw[e,f] at a;cases a
   rw[zc this];exact f
theorem LIn.box(k:LIn F h0 h i bty ty e rows):∃x,h[i]? =some (.box bty [x]):=⟨_,k.at_.choose_spec.1⟩
theorem LIn.raws(k:LIn F h0 h i bty ty e rows){M:List Ob}{o:Ob}:RawK h ((h++M).set i o):=by
 obtain⟨x,a⟩:=k.box
 exact RawK.app.trans (.setB (ze a))
theorem LIn.raws_own(k:LIn F h0 h i bty ty e rows){M:List Ob}{o o':Ob}{id:Nat}{c ee:Nat}{a:List (List AV)}{st:Nat}(d:h[id]? =some (.row c ee a st)):RawK h (((h++M).set id o').set i o):=by
 obtain⟨x,f⟩:=k.box
 have b:id≠i:=λq=>by rw[q,f] at d;cases d
 exact(RawK.app.trans (.setR (ze d))).trans (.setB (by rw[zc b];exact ze f))
theorem LIn.anyR(k:LIn F h0 h i bty ty e rows)(rows':List (List AV)):∃h',LIn F h0 h' i bty ty e rows'/\ResK h h'/\RawK h h':=by
 have q:=k.push_nil (M:=[.row ty e rows' 0]) (zD rfl) (id:=h.length) (zp _) (by rw[zK rfl];rfl)
 exact⟨_,q,k.pre.resK q.pre,k.raws⟩
end
section
variable {P:Program} {N b:Nat} {T:Env} {h:List Ob} {ds:List Deferred}
def Xva(P:Program)(N b:Nat)(ds:List Deferred)[x:Held (Code × QE)](T:Env)(h:List Ob):Prop:=XO P N b ds x.it.1 x.it.2 T h
theorem yDa{c:Code}{X:QE}(k:XO P N b ds c X T h): @Xva P N b ds ⟨(c,X)⟩ T h:=k
theorem qRa{c:Code}{X Y:QE}(k:XO P N b ds c X T h)(j:∀e ds T h,X e ds T h->Y e ds T h):XO P N b ds c Y T h:=λφ i w g a r=>
 wp_mono (k φ i w g a r) λe m w' ⟨d,f,h',l,q⟩=>⟨d,f,h',j _ _ _ _ l,q⟩
end
section
variable {P:Program} {N b:Nat} {T:Env} {h:List Ob} {ds:List Deferred}
def wma(P:Program)(N b:Nat)(ds:List Deferred)[x:Held (Code × QE)]:xR
 | .normal,T,h=> @Xva P N b ds x T h
 | e,T,h=>x.it.2 e ds T h
theorem Xwa(x:Held (Code × QE)): @wma P N b ds x .normal T h= @Xva P N b ds x T h:=id rfl
theorem Xxa(c:Code)(X:QE): @wma P N b ds ⟨(c,X)⟩ .ret T h=X .ret ds T h:=id rfl
attribute [go_sem] Xwa Xxa
theorem kF{c c':Code}{X:QE}(a:okC N c=true)(k:wpC P N ⟨b,ds⟩ c (@wma P N b ds ⟨(c',X)⟩) T h):XO P N b ds (.seq c c') X T h:=
 zja (yBa (qD _ a k) λe T h q=>by cases e<;>exact q)
theorem qSa{c:Code}{X:QE}(a:okC N c=true)(k:wpC P N ⟨b,ds⟩ c (λe T h=>X e ds T h) T h):XO P N b ds c X T h:=
 yBa (qD _ a k) λe T h q=>q
theorem Xya{rs:List ResultVar}{h0 h':List Ob}{T:Env}{R:AV->Prop}{ds:List Deferred}(a:ds=[]∨∃D id:Nat,ds=[⟨.collected D, #[]⟩]/\h0.length<=id/\h'[id]? =some (.raw D (.deferred (some [])) [] []))(f:Pre h0 h'){r:AV}(d:∀b,VE P T b rs=some r)(e:r.lt h0.length=true)(c:R r):jib P rs h0 R .ret ds T h':=
 ⟨.inl rfl,a,f,⟨r,d,e,c⟩⟩
end
end Go.Proofs.YtigdlmpjijhpaaaGreat.Ax
namespace Go.Proofs.YtigdlmpjijhpaaaGreat.Ax
open Go Go.Proofs
set_option maxRecDepth 100000
theorem jWa{v:List Spn}{i:Nat}{k:Int}(h:i<v.length):jk k (v.drop i)=(if(v[i]).from_>k then [⟨k,(v[i]).from_⟩] else [])++jk (v[i]).to_ (v.drop (i+1)):=by
 rw[qU h,jk]
theorem qTa{α:Type}{L r:List α}{n:Nat}{x:α}(h:L.drop n=x::r):L[n]? =some x/\L.drop (n+1)=r:=by
 have a:(L.drop n)[0]? =some x:=by rw[h];rfl
 rw[List.getElem?_drop] at a
 refine⟨a,?_⟩
 rw[<-List.drop_drop,h];rfl
theorem koa{α:Type}{L:List α}{n:Nat}(h:L.drop n=[])(a:n<=L.length):n=L.length:=by
 have:(L.drop n).length=0:=by rw[h];rfl
 rw[List.length_drop] at this
 omega
def zla(s:Spn):AV:= .ag (qJ s)
theorem Qla(j:Nat)(v:List Spn)(P:v.length<1048576):zdb Tryz.prog 246 [.ptr j 0] (λh=>h[j]? =some (.box 55 [spv v])) ((jk 0 v).map zla):=by
 intro l K I s d E u o L
 have hex:∃(r:AV) (h':List Ob),K ((jk 0 v).map zla).length h'/\ResK I h':=by
  obtain⟨h',q⟩:=u
  exact⟨.tup [],h',q⟩
 have O:=E 0 I s
 refine zj Tryz.f246 [] 34 rfl rfl rfl rfl rfl rfl (by decide) (hex) λB=>?_
 simp only[go_sem,O,zb]
 refine zO (by decide) (λm T h'=>∃(i n:Nat) (k:Int),i<=v.length/\n<=(jk 0 v).length/\(jk 0 v).drop n=jk k (v.drop i)/\K n h'/\T 0= .v (.func (.yield l) #[] #[])/\T 3=i64 k/\T 6=spv v/\T 7=i64 v.length/\T 8=i64 i/\m=v.length - i) v.length
  ⟨0,0,0,by omega,by omega,rfl,s,by simp only[go_sem],by simp only[go_sem],by simp only[go_sem],by(simp only[go_sem]<;>rfl),by(simp only[go_sem]<;>rfl),rfl⟩ ?_
 rintro m T h' ⟨i,n,k,hi,J,a,g,t0,t3,t6,G,t8,rfl⟩
 simp only[go_sem,G,t8]
 refine ways (λe=>?_) (λe=>?_)
 ·have p:=dlt e
  have f:=Jf p
  have x:(i:Int)<v.length:=by omega
  rw[jWa p] at a
  obtain⟨z,M⟩:∃z,z=v[i]:=⟨_,rfl⟩
  rw[<-M] at f a
  simp only[go_sem,t3,t6,t8,f,x,zb,Int.toNat_natCast,zf]
  cases q:decide (z.from_>k)
  ·rw[if_neg (of_decide_eq_false q),List.nil_append] at a
   simp only[go_sem,q,t3,t8,qv]
   exact⟨v.length - (i+1),by omega,i+1,n,_,by omega,J,a,d _ _ _ (zD rfl) g,t0,rfl,t6,G,qn (by omega) rfl,rfl⟩
  ·rw[if_pos (of_decide_eq_true q)] at a
   obtain⟨t,D⟩:=qTa a
   have w:n<(jk 0 v).length:=(zd.1 t).1
   simp only[go_sem,q,t0,t3,t8,qv]
   refine JO (L n (zla ⟨k,z.from_⟩) _ (by rw[zz,t];rfl) (d _ _ _ (zD rfl) g)) ?_
   rintro H ⟨c,y⟩
   have A:H[h'.length]? =some (.box 143 (qJ z)):=y _ _ _ (o _ _ g) (by rw[zK rfl];rfl)
   simp only[go_sem,q,t0,t3,t8,qv,A]
   exact⟨v.length - (i+1),by omega,i+1,n+1,_,by omega,by omega,D,c,rfl,t6,G,qn (by omega) rfl,rfl⟩
 ·have N:=xr e
  have C:i=v.length:=by omega
  subst C
  rw[List.drop_length,jk] at a
  simp only[go_sem,t3]
  refine ways (λF=>?_) (λF=>?_)
  ·rw[if_pos (of_decide_eq_true F)] at a
   obtain⟨t,D⟩:=qTa a
   have w:n<(jk 0 v).length:=(zd.1 t).1
   simp only[go_sem,t0,t3]
   refine JO (L n (zla ⟨k,32054400⟩) _ (by rw[zz,t];rfl) g) ?_
   rintro H ⟨c,_⟩
   have b:n+1=((jk 0 v).map zla).length:=by
    rw[zb];exact koa D (by omega)
   rw[b,zb] at c
   simp only[go_sem]
   exact⟨_,rfl,.inl c⟩
  ·rw[if_neg (of_decide_eq_false F)] at a
   have b:n=((jk 0 v).map zla).length:=by
    rw[zb];exact koa a J
   rw[b,zb] at g
   simp only[go_sem]
   exact⟨_,rfl,.inl g⟩
theorem VNa(h:List Ob)(v:List Spn):ACalls Tryz.prog 193 [spv v] h λr h'=>r= .fn (.func 246) [] [.ptr h.length 0]/\h'=h++[.box 55 [spv v]]:=by
 refine zj Tryz.f193 [.tmp 2] 4 rfl rfl rfl rfl rfl rfl (by decide) (⟨_,_,⟨rfl,rfl⟩,resK_app⟩) λB=>?_
 simp only[go_sem]
 exact⟨_,rfl,.inl ⟨rfl,rfl⟩⟩
theorem Kq(h:List Ob)(x y:AV)(a b:List Spn)(f:SlOf h x 2 (a.map qJ))(hy:SlOf h y 2 (b.map qJ))(W:a.length<1048576)(hb:b.length<524288):
  ACalls Tryz.prog 119 [x,y] h λr h'=>r=spv (jD a b)/\h'=h:=by
 refine Wx Tryz.f119 [.tmp 4] 18 rfl rfl rfl rfl rfl rfl (⟨_,rfl⟩) λbs=>?_
 refine kF (by decide) ?_
 simp only[go_sem]
 refine kF (by decide) ?_
 simp only[go_sem]
 refine zja ?_
 refine kF (by decide) ?_
 simp only[go_sem]
 refine zh (J8 _ y b (hy.app _) (by omega)) ?_
 rintro _ h3 ⟨rfl,rfl⟩
 simp only[go_sem]
 refine zh (VNa _ (qx b)) ?_
 rintro _ h4 ⟨rfl,rfl⟩
 simp only[go_sem]
 have K:(qx b).length<1048576:=by have:=qm b;omega
 obtain⟨v,P⟩:∃v,v=qx b:=⟨_,rfl⟩
 rw[<-P] at K⊢
 have X:=Kn v 0
 have Y:v.length<524288:=by have:=qm b;rw[P];omega
 have base:LIn [(h.length+1,.box 55 [spv v])] h (h++[.box 55 [.v (.slice none 0 0)],.box 55 [spv v]]) h.length 55 143 2 []:=⟨⟨_,rfl,zl rfl (zD rfl)⟩,zp _,(λz S=>by
  cases S with
  | head=>exact⟨by show h.length+1≠h.length;omega,⟨_,_,rfl⟩,by rw[zG (k:=1) rfl];rfl⟩
  | tail _ S=>cases S),_,by rw[zK rfl];rfl,.inl ⟨rfl,rfl⟩⟩
 have w:jD a b=Vf a (jk 0 v):=by rw[P];rfl
 refine yDa (Ww (qRa (zka (p:=10) (by decide) rfl (by simp only[go_sem]) (Qla (h.length+1) v K)
  (λn h'=>LIn [(h.length+1,.box 55 [spv v])] h h' h.length 55 143 2 (((jk 0 v).take n).map qJ))
  (λn x B d=>B 5= .ptr h.length 0/\∃s j,(jk 0 v)[n]? =some s/\B 6= .ptr j 0/\d[j]? =some (.box 143 (qJ s))/\LIn [(h.length+1,.box 55 [spv v])] h d h.length 55 143 2 (((jk 0 v).take n).map qJ))
  ?_ (λn h' M I k=>k.app I) (λn h' k=>k.keep (.head _)) ?_ ?_ ?_ ?_ ?_) ?_))
 ·exact λM I=>base.app I
 ·intro M I
  exact(base.app I).anyR _
 ·intro n h' j l o ks us o' T k G
  exact k.raw (Nat.le_trans (by rw[zg];exact Nat.le_add_right _ _) T) G
 ·rintro n x B d j l o ks us o' T ⟨t5,s,m,U,O,F,k⟩ G
  refine⟨t5,s,m,U,O,?_,k.raw (Nat.le_trans (by rw[zg];exact Nat.le_add_right _ _) T) G⟩
  have:j≠m:=λe=>by rw[e,F] at G;cases G
  rw[zc this];exact F
 ·intro bb l n x h' f k
  rw[zz] at f
  cases N:(jk 0 v)[n]? with
  | none=>rw[N] at f;cases f
  | some s=>
    rw[N] at f
    injection f with f
    subst f
    refine Jh (by decide) (by decide) ?_
    simp only[go_sem,Xta,zla]
    exact⟨⟨s,h'.length,rfl,rfl,by rw[zK rfl];rfl,k.app (zD rfl)⟩,.app,.app⟩
 ·rintro bb l n x B d f ⟨t5,s,m,U,O,F,k⟩
  obtain⟨V,c,t⟩:=k.at_
  refine qQa (Jh (by decide) (by decide) ?_)
  have C:(((jk 0 v).take n).length+1)*17<=140737488355328:=by rw[zH];omega
  have u:((jk 0 v).take n).map qJ++[qJ s]=((jk 0 v).take (n+1)).map qJ:=by
   obtain⟨hn,N⟩:=zd.1 U
   rw[<-zE hn,zw,N];rfl
  have hi:=k.lt
  rcases t with⟨rfl,J⟩|⟨id,st,Z,rfl,A⟩
  ·rw[J,List.nil_append] at u
   have g:∀M,(d++M)[h.length]? =some (.box 55 [.v (.slice none 0 0)]):=λM=>ze c
   simp only[go_sem,t5,O,F,c,g]
   have q:=k.push_nil (M:=[.row 143 2 [qJ s] 0,.row 143 2 [qJ s] 0]) (zl rfl (zD rfl)) (id:=d.length+1) (by omega) (by rw[zG (k:=1) rfl];rfl)
   refine⟨by rw[<-u];exact q,k.raws,KeepB.app.trans (.setL (by omega))⟩
  ·have hg:∀M,(d++M)[id]? =some (.row 143 2 (((jk 0 v).take n).map qJ) st):=λM=>ze A
   have g:∀M,(d++M)[h.length]? =some (.box 55 [.tl id st]):=λM=>ze c
   have Q:id≠h.length:=λq=>by rw[q,c] at A;cases A
   have H:∀M o',((d++M).set id o')[h.length]? =some (.box 55 [.tl id st]):=λM o'=>by
    rw[zc Q];exact g M
   simp only[go_sem,t5,O,F,c,g,hg,H,zb,C]
   have q:=k.push_own (M:=[.row 143 2 [qJ s] 0]) (zD rfl) Z A (rows':=((jk 0 v).take (n+1)).map qJ)
   refine⟨by rw[<-u] at q ⊢;exact q,k.raws_own A,(KeepB.app.trans (.setR (ze A))).trans (.setL (by omega))⟩
 ·rintro e ds B d ⟨rfl,rfl,D,id,rfl,hid,E,k⟩
  rw[zg] at hid
  rw[zb,zV] at k
  obtain⟨V,c,t⟩:=k.at_
  have i:=k.pre
  refine⟨rfl,(kF (by decide) ?_:XO _ _ _ _ _ _ _ _)⟩
  simp only[go_sem,c]
  have R:SlOf d x 2 (a.map qJ):=by
   obtain⟨L,rfl,_⟩:=i
   exact f.app _
  refine zh (Y9a _ x V a (jk 0 v) R t.rows W (by omega)) ?_
  rintro _ h6 ⟨rfl,rfl⟩
  simp only[go_sem]
  refine yDa (qSa (by decide) ?_)
  simp only[go_sem]
  exact Xya (.inr ⟨D,id,rfl,by omega,E⟩) i (r:=spv (Vf a (jk 0 v))) (λ_=>rfl) (Je _) (by rw[w])
theorem jjb(h:List Ob)(x:AV)(l:List Spn)(n:Int)(b:SlOf h x 2 (l.map qJ))(v:l.length<524288)(p:Fit n):
  ACalls Tryz.prog 284 [x,i64 n] h λr h'=>r=spv (J5 l n)/\h'=h:=by
 refine Ko ?_
 refine zj Tryz.f284 [.tmp 4] 16 rfl rfl rfl rfl rfl rfl (by decide) (⟨_,_,⟨.inl rfl,rfl⟩,.refl⟩) λB=>?_
 simp only[go_sem]
 refine ways (λe=>?_) (λe=>?_)
 ·simp only[go_sem]
  exact⟨_,rfl,.inl ⟨.inr ⟨rfl,by unfold J5;rw[if_pos (of_decide_eq_true e)];rfl⟩,rfl⟩⟩
 ·have a:¬ n<=0:=of_decide_eq_false e
  simp only[go_sem]
  refine zh (yza _ x l b (by omega)) ?_
  rintro _ t ⟨rfl,rfl⟩
  have f:=zba (l:=qx l) (λs g=>kX s g)
  have i:=qm l
  obtain⟨m,d⟩:∃m:Int,m=if 32054400<n then 32054400 else n:=⟨_,rfl⟩
  have c:m=min n 32054400:=by rw[d];split<;>omega
  have j:0<m/\m<=32054400:=by omega
  have o:IntKind.wrap .i64 (jQ (qx l) - m)=jQ (qx l) - m:=qq (n:=jQ (qx l) - m) (by unfold Fit;omega)
  simp only[go_sem, <-d,o]
  refine zh (jVa _ x l _ b (by omega) (by unfold Fit;omega)) ?_
  rintro _ q ⟨rfl,rfl⟩
  simp only[go_sem]
  have k:(qP l (jQ (qx l) - m)).length<=(qx l).length:=xP _ _
  refine zh (Kq _ x _ l (qP l (jQ (qx l) - m)) b (j5 _) (by omega) (by omega)) ?_
  rintro _ u ⟨rfl,rfl⟩
  simp only[go_sem]
  exact⟨_,rfl,.inl ⟨.inl (by unfold J5;rw[if_neg a, <-c];rfl),rfl⟩⟩
open Go.RowKit
attribute [go_sem] Yma Yna YMa qXb xwb W7a qmb qnb W8a qob qpb qqb qrb qsb qtb W9a Yaa Yba Yca Yda Yea qub qvb qwb qxb qyb qzb qAb qBb qCb qDb qEb qFb Jpa Jqa Yfa qGb qHb qIb xjb qJb qKb Yga qLb qMb K7a Jra qNb qOb qPb Yha Yia K8a qQb K9a qRb Jsa Joa Yja Zwa Vaa qSb ty3 qfb qTb qUb Vba Yka qVb qgb Yla xkb qWb YLa ty4 xlb qhb qib ty5 qjb qkb xmb xnb xob xpb xqb Vca xrb xsb xtb xub ty9 qlb xvb
theorem qUa(z:Array Value)(k:Nat):(Builtin.zeroCells z k).size=k*z.size:=by
 simp[Builtin.zeroCells]
theorem VOa:∃i z,Tryz.prog.info? 143=some i/\i.zero=some z/\i.size=2/\i.bytes=16/\z.cells.size=2:=by
 have h:(Tryz.prog.info? 143).map (λi=>(i.zero,i.size,i.bytes))=some (some (.agg #[.int .i64 0,.int .i64 0]),2,16):=by kernel_rfl
 cases hi:Tryz.prog.info? 143 with
 | none=>rw[hi] at h;cases h
 | some i=>
   rw[hi] at h
   injection h with h
   injection h with h1 h2
   injection h2 with h2 h3
   exact⟨i,_,rfl,h1,h2,h3,rfl⟩
set_option maxHeartbeats 1000000 in
theorem Xza(n:Nat)(w:World)(t:n<=1000000000000):Calls Tryz.prog 245 #[.slice none 0 0,.int .i64 (n:Int)] w λe w'=>∃v,e= .returned v/\Below w.heap.size w w'/\w'.ownsRow w.heap.size 143 2 v 0 []/\∀b,v.ownBlock=some b->w.heap.size<=b:=by
 by_cases h0:n=0
 ·subst h0
  go_enter Tryz.func245,Tryz.ntmps245
  go_wp2
  go_ret
  exact⟨_,rfl,Below.refl _ _,World.ownsRow_nil _ _ _ _,λb c=>by cases c⟩
 ·obtain⟨i,z,hi,p,s,c,j⟩:=VOa
  have d:∀ty,(Builtin.append_ #[55,3] ty #[.slice none 0 0,.int .i64 (n:Int)]).run Tryz.prog w=
    .ok (.slice (some ⟨w.heap.size,0,none⟩) n (grownCap w n 0 143)) (w.drew.alloc (.cells (#[]++Builtin.zeroCells z.cells n++Builtin.zeroCells z.cells (grownCap w n 0 143 - n)) 143)):=λty=>by
   have h:=Lib.run_append_grow_zeros w 55 3 ty 143 i z .i64 .i64 Tryz.underlying55 Tryz.underlying3 hi p none 0 0 [] (run_firstCells_none w.drew i.size 0 0 0) n (by omega) (by omega) (by omega) (by omega)
    (by rw[c];omega) (by rw[Nat.zero_add];exact growslice_fits (by omega) (by rw[c];omega))
   rw[Nat.zero_add] at h
   exact h
  have k:n<=grownCap w n 0 143:=grownCap_ge w _ _ _
  have a:=grownCap_le_maxLen w n 0 143 (by unfold maxLen;omega)
  obtain⟨G,m⟩:∃G,G=grownCap w n 0 143:=⟨_,rfl⟩
  rw[<-m] at d k a
  obtain⟨cs,f⟩:∃cs,cs=(#[]++Builtin.zeroCells z.cells n++Builtin.zeroCells z.cells (G - n):Array Value):=⟨_,rfl⟩
  rw[<-f] at d
  have g:cs.size=G*2:=by rw[f];simp only[Array.size_append,qUa,j];simp;omega
  have o:G<=9223372036854775807:=by unfold maxLen at a;omega
  have l:(0:Int)<(n:Int):=by omega
  have q:=Lib.hid (show(w.drew.alloc (.cells cs 143)).ownsRow w.heap.size 143 2 (.slice (some ⟨w.heap.size,0,none⟩) 0 G) 0 [] from
   ⟨rfl,.inr ⟨w.heap.size,G,cs,rfl,zp _,heap_alloc_new w.drew _,Nat.zero_le _,a,g,by simp⟩⟩)
  have r:=Lib.hid (show Below w.heap.size w (w.drew.alloc (.cells cs 143)) from(show Below w.heap.size w w.drew from⟨rfl,rfl,rfl,zp _,λ_ _=>rfl⟩).alloc (zp _) _)
  clear m f s c p hi g a j
  go_enter Tryz.func245,Tryz.ntmps245
  go_wp2_with (at_builtin;refine Lib.wpList_append_run _ rfl _ _ _ _ rfl _ _ rfl rfl _ _ (d _) ?_)
  go_ret
  exact⟨_,rfl,r.out,q.out,λb c=>by injection c with c;subst c;exact zp _⟩
theorem jkb(h:List Ob)(n:Nat)(q:n<=1000000000000):ACalls Tryz.prog 245 [.v (.slice none 0 0),i64 n] h λr h'=>r= .tl h.length 0/\h'=h++[.row 143 2 [] 0]:=by
 refine⟨rfl,⟨_,_,⟨rfl,rfl⟩,resK_app⟩,λφ t B w g vs p hB a=>?_⟩
 obtain⟨m,A,rfl,f,y,s,rfl,d,b⟩:=a
 have f:m= .slice none 0 0:=f
 have d:y= .int .i64 (n:Int):=d
 have b:s=[]:=b
 subst f d b
 refine(Xza n w q).mono λe w' ⟨v,l,u,i,k⟩=>?_
 obtain⟨k1,k2⟩:=JM p hB (ty:=143) (e:=2) (by decide) (xs:=[]) (λx o=>by cases o) 0 u ⟨i.1,i.2.imp id λ⟨g,cap,cur,j,z,r⟩=>⟨g,cap,cur,j,Nat.le_trans hB z,r⟩⟩ rfl k
 rw[ju] at k1 k2
 have c:fill φ (h++[.row 143 2 [] 0])=fill φ h++[.row 143 2 [] 0]:=xc t
 rw[<-c] at k1 k2
 exact⟨v,_,_,_,l,⟨rfl,rfl⟩,resK_app,k1,k2⟩
theorem jXa(l:List Spn):((l.map qJ).all λr=>r.length==2 && r.all AV.one)=true:=by
 rw[qa]
 intro r a
 obtain⟨s,_,rfl⟩:=zt.1 a
 rfl
def Zo(xs:List (AV × List Spn)):List Spn:=xs.flatMap (·.2)
theorem qVa{xs:List (AV × List Spn)}{k:Nat}(h:k<xs.length):Zo (xs.take (k+1))=Zo (xs.take k)++xs[k].2:=by
 unfold Zo
 rw[<-zE h,List.flatMap_append];simp
theorem yEa(xs:List (AV × List Spn))(k:Nat):(Zo (xs.take k)).length<=(Zo xs).length:=by
 conv=>rhs;rw[<-qQ k xs]
 simp only[Zo,List.flatMap_append,zg]
 omega
theorem XAa(h:List Ob)(p:AV)(xs:List (AV × List Spn))(x:SlOf h p 1 (xs.map λq=>[q.1]))(G:∀q∈xs,SlOf h q.1 2 (q.2.map qJ))(J:xs.length<1048576)(K:(Zo xs).length<1073741824):
  ACalls Tryz.prog 188 [p] h λr h'=>∃L,h'=h++L/\NoRes L/\New h 2 r ((Zo xs).map qJ) L:=by
 have hex:∃r h',(∃L,h'=h++L/\NoRes L/\New h 2 r ((Zo xs).map qJ) L)/\ResK h h':=
  ⟨.sl 2 _,_,⟨[],rfl,jm,λ_ _=>⟨rfl,λ_=>rfl⟩⟩,resK_app⟩
 have v:=x.rows
 refine zj Tryz.f188 [.tmp 2] 36 rfl rfl rfl rfl rfl rfl (by decide) (hex) λB=>?_
 simp only[go_sem,v,zb]
 refine zO (by decide) (λm T h'=>∃i:Nat,i<=xs.length/\h'=h/\T 0=p/\T 3=i64 (Zo (xs.take i)).length/\T 9=p/\T 10=i64 xs.length/\T 11=i64 i/\m=xs.length - i) xs.length
  ⟨0,by omega,rfl,by simp only[go_sem],by(simp only[go_sem]<;>rfl),by simp only[go_sem],by(simp only[go_sem]<;>rfl),by(simp only[go_sem]<;>rfl),rfl⟩ ?_
 rintro m T h' ⟨i,hi,rfl,t0,t3,t9,t10,d,rfl⟩
 simp only[go_sem,t10,d]
 refine ways (λe=>?_) (λe=>?_)
 ·have b:=dlt e
  have c:(xs.map λq=>[q.1])[i]? =some [xs[i].1]:=by rw[zz,zi b];rfl
  have f:(i:Int)<xs.length:=by omega
  have j:=G _ (zx b)
  have a:=qVa b
  have s:=yEa xs (i+1)
  obtain⟨q,u⟩:∃q,q=xs[i]:=⟨_,rfl⟩
  rw[<-u] at c j a
  have g:=j.rows
  have t:=x.at (i:=i) (by rw[zb];exact b)
  have k:=j.cells
  rw[a,zg] at s
  have I:IntKind.wrap .i64 (((Zo (xs.take i)).length:Int)+(q.2.length:Int))=((Zo (xs.take (i+1))).length:Int):=by
   rw[a,zg]
   exact(qq (n:=((Zo (xs.take i)).length:Int)+(q.2.length:Int)) (by unfold Fit;omega)).trans (by omega)
  simp only[go_sem,t3,t9,d,t,c,v,f,k,g,I,zb,Int.toNat_natCast,zf]
  have H:decide (((Zo (xs.take (i+1))).length:Int)<0)=false:=by rw[decide_eq_false_iff_not];omega
  simp only[go_sem,H,d]
  exact⟨xs.length - (i+1),by omega,i+1,by omega,t0,rfl,t9,t10,qn (by omega) rfl,rfl⟩
 ·have E:=xr e
  have o:i=xs.length:=by omega
  subst o
  rw[zV] at t3
  simp only[go_sem,t3]
  refine zh (jkb _ (Zo xs).length (by omega)) ?_
  rintro _ F ⟨rfl,rfl⟩
  have C:=(x.app [.row 143 2 [] 0]).rows
  simp only[go_sem,t0,C,zb]
  refine zO (by decide) (λm T F=>∃(i st:Nat),i<=xs.length/\F=h'++[.row 143 2 ((Zo (xs.take i)).map qJ) st]/\T 6= .tl h'.length st/\T 25=p/\T 26=i64 xs.length/\T 27=i64 i/\m=xs.length - i) xs.length
   ⟨0,0,by omega,rfl,by simp only[go_sem],by simp only[go_sem],by(simp only[go_sem]<;>rfl),by(simp only[go_sem]<;>rfl),rfl⟩ ?_
  clear t0 t9 t10 t3 d
  rintro m T F ⟨i,st,hi,rfl,t6,t25,A,D,rfl⟩
  simp only[go_sem,A,D]
  refine ways (λe=>?_) (λe=>?_)
  ·have b:=dlt e
   have c:(xs.map λq=>[q.1])[i]? =some [xs[i].1]:=by rw[zz,zi b];rfl
   have f:(i:Int)<xs.length:=by omega
   have j:=G _ (zx b)
   have a:=qVa b
   have s:=yEa xs (i+1)
   obtain⟨q,u⟩:∃q,q=xs[i]:=⟨_,rfl⟩
   rw[<-u] at c j a
   have y:=(x.app [.row 143 2 ((Zo (xs.take i)).map qJ) st]).rows
   have g:=(j.app [.row 143 2 ((Zo (xs.take i)).map qJ) st]).rows
   have k:=j.cells
   have t:=(x.app [.row 143 2 ((Zo (xs.take i)).map qJ) st]).at (i:=i) (by rw[zb];exact b)
   have z:=jXa q.2
   rw[a,zg] at s
   have w:((Zo (xs.take i)).length+q.2.length)*17<=140737488355328:=by omega
   have l:(h'++[.row 143 2 ((Zo (xs.take i)).map qJ) st])[h'.length]? =some (.row 143 2 ((Zo (xs.take i)).map qJ) st):=by rw[zK rfl];rfl
   simp only[go_sem,t6,t25,D,t,z,c,y,f,k,g,w,l,zb,Int.toNat_natCast,zf]
   exact⟨xs.length - (i+1),by omega,i+1,st+1,by omega,by rw[a,zw],rfl,A,qn (by omega) rfl,rfl⟩
  ·have E:=xr e
   have o:i=xs.length:=by omega
   subst o
   simp only[go_sem,t6]
   exact⟨_,rfl,.inl ⟨_,rfl,zD rfl,OwnS.new (h0:=h') (ty:=143) (.inr ⟨h'.length,st,zp _,rfl,by rw[zV,zK rfl];rfl⟩) (zp _)⟩⟩
end Go.Proofs.YtigdlmpjijhpaaaGreat.Ax
namespace Go.Proofs.YtigdlmpjijhpaaaGreat.Ax
open Go Go.Proofs
set_option maxRecDepth 100000
theorem SIn.ones{h:List Ob}{s:Setup}{a:SA}(k:SIn h s a):AV.one a.w=true/\AV.one a.e=true/\AV.one a.c=true/\AV.one a.g=true/\AV.one a.r=true/\AV.one a.t=true:=⟨k.w.one,k.e.one,k.c.one,k.g.one,k.r.one,k.t.one⟩
structure Times (s:Setup):Prop where
 unit:1<=s.unit/\s.unit<=3600
 cap:60<=s.cap/\s.cap<=57600
 paidBreak:0<=s.paidBreak/\s.paidBreak<=86400
 autoAfter:0<=s.autoAfter/\s.autoAfter<=86400
 autoBreak:0<=s.autoBreak/\s.autoBreak<=86400
 nightFrom:0<=s.nightFrom/\s.nightFrom<=86400
 nightTo:0<=s.nightTo/\s.nightTo<=86400
 dayOver:0<=s.dayOver/\s.dayOver<=86400
 dayReg:0<=s.dayReg/\s.dayReg<=s.dayOver
 weekReg:0<=s.weekReg/\s.weekReg<=604800
theorem VX{s:Setup}(h:z6 s=true):Times s:=by
 have h0:=jU h
 simp only[z6,wY,zq] at h
 have a:=h.1.2.1.1.2
 exact⟨h0.1,h0.2,wv a (by simp),wv a (by simp),wv a (by simp),wv a (by simp),wv a (by simp),wv a (by simp),Qz h.1.2.1.2,Qz h.1.2.2⟩
def Kr(s:Setup):List Spn:=if s.nightTo<s.nightFrom then [⟨0,s.nightTo⟩,⟨s.nightFrom,86400⟩] else [⟨s.nightFrom,s.nightTo⟩]
theorem VWa{s:Setup}(t:Times s){w:Spn}(h:w∈Kr s):(0<=w.from_/\w.from_<=86400)/\0<=w.to_/\w.to_<=86400:=by
 have b:=t.nightFrom
 have a:=t.nightTo
 unfold Kr at h
 split at h
 ·rcases zy.1 h with rfl|h
  ·simp only;omega
  ·rw[zW] at h;subst h;simp only;omega
 ·rw[zW] at h;subst h;simp only;omega
theorem kya(s:Setup):(Kr s).length<=2:=by unfold Kr;split<;>simp
theorem XLa(h:List Ob)(s:Setup)(a:SA)(k:SIn h s a):
  ACalls Tryz.prog 191 [jg s a] h λr h'=>r=spv (Kr s)/\h'=h:=xk (by decide) (Je _) <| by
 have hex:∃r h',(∃L,h'=h++L/\NoRes L/\New h 2 r ((Kr s).map qJ) L)/\ResK h h':=
  ⟨.sl 2 _,_,⟨[],rfl,jm,λ_ _=>⟨rfl,λ_=>rfl⟩⟩,resK_app⟩
 refine zj Tryz.f191 [.tmp 2] 21 rfl rfl rfl rfl rfl rfl (by decide) (hex) λB=>?_
 simp only[go_sem,k.ones]
 refine ways (λe=>?_) (λe=>?_)
 ·have b:Kr s=[⟨0,s.nightTo⟩,⟨s.nightFrom,86400⟩]:=by unfold Kr;rw[if_pos (of_decide_eq_true e)]
  rw[b]
  simp only[go_sem,k.ones]
  exact Vh (ty:=143) (x:= .tl (h.length+1) 0) (by simp only[go_sem]) ⟨_,rfl,zl rfl (zD rfl)⟩ (.inr ⟨_,_,by omega,rfl,by rw[zG (k:=1) rfl];rfl⟩)
 ·have b:Kr s=[⟨s.nightFrom,s.nightTo⟩]:=by unfold Kr;rw[if_neg (of_decide_eq_false e)]
  rw[b]
  simp only[go_sem,k.ones]
  exact Vh (ty:=143) (x:= .tl (h.length+1) 0) (by simp only[go_sem]) ⟨_,rfl,zl rfl (zD rfl)⟩ (.inr ⟨_,_,by omega,rfl,by rw[zG (k:=1) rfl];rfl⟩)
def Xc(s:Setup)(d:Int):List Spn:=((Kr s).filter λw=>decide (w.from_<w.to_)).map λw=>⟨d*86400+w.from_,d*86400+w.to_⟩
def ZL(d:Int)(o:List Spn)(w:Spn):List Spn:=if w.from_<w.to_ then o++[⟨d*86400+w.from_,d*86400+w.to_⟩] else o
theorem WD(d:Int):∀(l o:List Spn),l.foldl (ZL d) o=o++(l.filter λw=>decide (w.from_<w.to_)).map λw=>⟨d*86400+w.from_,d*86400+w.to_⟩
 | [],o=>by simp
 | w::l,o=>by
   rw[List.foldl_cons,WD d l,List.filter_cons]
   unfold ZL
   by_cases h:w.from_<w.to_<;>simp[h]
theorem VXa(F:List (Nat × Ob))(h0 h:List Ob)(b:List Spn)(i j:Nat)(s:Setup)(a:SA)(k:LIn F h0 h i 55 143 2 (b.map qJ))(ks:SIn h s a)(t:Times s)(hj:(j,Ob.box 30 (qg s a))∈F)(hl:b.length<1099511627776)(d:Int)(hd:0<=d/\d<371):
  ACalls Tryz.prog 190 [i64 d,.ptr j 0,.ptr i 0] h λr h'=>r= .tup []/\LIn F h0 h' i 55 143 2 ((b++Xc s d).map qJ):=by
 have hex:∃r h',(r=AV.tup []/\LIn F h0 h' i 55 143 2 ((b++Xc s d).map qJ))/\ResK h h':=by
  obtain⟨h',q1,q2⟩:=k.any ((b++Xc s d).map qJ)
  exact⟨_,h',⟨rfl,q1⟩,q2⟩
 have O:h[j]? =some (.box 30 (qg s a)):=k.keep hj
 refine zj Tryz.f190 [] 33 rfl rfl rfl rfl rfl rfl (by decide) (hex) λB=>?_
 simp only[go_sem,O,ks.ones]
 refine zh (XLa _ s a ks) ?_
 rintro _ h4 ⟨rfl,rfl⟩
 have C:b++Xc s d=((Kr s).take (Kr s).length).foldl (ZL d) b:=by rw[zV,WD];rfl
 rw[C]
 have L:=kya s
 have f:= @VWa s t
 obtain⟨v,X⟩:∃v,v=Kr s:=⟨_,rfl⟩
 rw[<-X] at L f⊢
 obtain⟨W,V⟩:∃W,W=(v.take v.length).foldl (ZL d) b:=⟨_,rfl⟩
 rw[<-V]
 simp only[go_sem,zb]
 refine zO (by decide) (λm T h'=>∃(n:Nat) (o:List Spn),n<=v.length/\o=(v.take n).foldl (ZL d) b/\o.length<=b.length+n/\LIn F h0 h' i 55 143 2 (o.map qJ)/\T 0=i64 d/\T 2= .ptr i 0/\T 7=spv v/\T 8=i64 v.length/\T 9=i64 n/\m=v.length - n) v.length
  ⟨0,b,by omega,rfl,by omega,k,by simp only[go_sem],by simp only[go_sem],by simp only[go_sem],by(simp only[go_sem]<;>rfl),by(simp only[go_sem]<;>rfl),rfl⟩ ?_
 rintro m T h' ⟨n,o,hn,N,Y,k',t0,t2,G,t8,t9,rfl⟩
 simp only[go_sem,t8,t9]
 refine ways (λe=>?_) (λe=>?_)
 ·have l:=dlt e
  have g:=Jf l
  have I:(n:Int)<v.length:=by omega
  have hb:=f (zx l)
  have c:(v.take (n+1)).foldl (ZL d) b=ZL d o v[n]:=by rw[<-zE l,qK, <-N];rfl
  obtain⟨z,Z⟩:∃z,z=v[n]:=⟨_,rfl⟩
  rw[<-Z] at g c hb
  have U:IntKind.wrap .i64 (d*86400)=d*86400:=qq (n:=d*86400) (by unfold Fit;omega)
  have R:IntKind.wrap .i64 (d*86400+z.from_)=d*86400+z.from_:=qq (n:=d*86400+z.from_) (by unfold Fit;omega)
  have S:IntKind.wrap .i64 (d*86400+z.to_)=d*86400+z.to_:=qq (n:=d*86400+z.to_) (by unfold Fit;omega)
  simp only[go_sem,G,t9,g,I,zb,Int.toNat_natCast,zf]
  refine ways (λu=>?_) (λu=>?_)
  ·have u:=of_decide_eq_true u
   have w:ZL d o z=o++[⟨d*86400+z.from_,d*86400+z.to_⟩]:=by unfold ZL;rw[if_pos u]
   obtain⟨x,Q,J⟩:=k'.at_
   have p:∀M,(h'++M)[i]? =some (.box 55 [x]):=λM=>ze Q
   have y:(o.length+1)*17<=140737488355328:=by omega
   rcases J with⟨rfl,D⟩|⟨id,st,u1,rfl,E⟩
   ·simp only[go_sem,t0,t2,t9,p,U,R,S]
    refine⟨v.length - (n+1),by omega,n+1,_,by omega,c.symm,by rw[w];simp;omega,?_,G,t8,qn (by omega) rfl,rfl⟩
    rw[w,zw,D]
    exact k'.push_nil (zl rfl (zl rfl (zD rfl))) (by omega) (by rw[zG (k:=2) rfl];rfl)
   ·have P:∀M,(h'++M)[id]? =some (.row 143 2 (o.map qJ) st):=λM=>ze E
    have H:id≠i:=λq=>by rw[q,Q] at E;cases E
    have A:∀M o',((h'++M).set id o')[i]? =some (.box 55 [.tl id st]):=λM o'=>by
     rw[zc H];exact p M
    simp only[go_sem,t0,t2,t9,p,P,A,y,U,R,S,zb]
    refine⟨v.length - (n+1),by omega,n+1,_,by omega,c.symm,by rw[w];simp;omega,?_,G,t8,qn (by omega) rfl,rfl⟩
    rw[w,zw]
    exact k'.push_own (zl rfl (zD rfl)) u1 E
  ·have u:=of_decide_eq_false u
   have w:ZL d o z=o:=by unfold ZL;rw[if_neg u]
   simp only[go_sem,t9]
   exact⟨v.length - (n+1),by omega,n+1,_,by omega,c.symm,by rw[w];omega,by rw[w];exact k'.app (zD rfl),t0,t2,G,t8,qn (by omega) rfl,rfl⟩
 ·have β:=xr e
  have K:n=v.length:=by omega
  subst K
  rw[<-V] at N
  subst N
  simp only[go_sem]
  exact⟨_,rfl,.inl ⟨rfl,k'⟩⟩
theorem XMa{o:List Int}{d:Int}(f:o.Pairwise (· < ·))(i:∀x∈o,0<=x/\x<371)(g:0<=d/\d<371):(Jg o d).Pairwise (· < ·)/\∀x∈Jg o d,0<=x/\x<371:=by
 unfold Jg
 cases k:o.getLast? with
 | none=>
   refine⟨by simp,λx c=>?_⟩
   have c:x=d:=by simpa using c
   subst c;exact g
 | some z=>
   simp only
   split
   ·rename_i l
    obtain⟨q,rfl⟩:∃q,o=q++[z]:=by
     obtain⟨q,j⟩:=List.getLast?_eq_some_iff.1 k
     exact⟨q,j⟩
    refine⟨?_,λx c=>?_⟩
    ·rw[qT]
     refine⟨f,by simp,λa e b h=>?_⟩
     rw[zW] at h
     subst h
     rw[qT] at f
     rcases zI.1 e with e|e
     ·have:=f.2.2 a e z (by simp);omega
     ·rw[zW] at e;omega
    ·rcases zI.1 c with c|c
     ·exact i x c
     ·rw[zW] at c;subst c;exact g
   ·exact⟨f,i⟩
theorem kza{o:List Int}{a:Int}(c:o.Pairwise (· < ·))(b:∀x∈o,0<=x/\x<371)(e:0<=a):∀k:Nat,a+k<=371->(Kp o a k).Pairwise (· < ·)/\∀x∈Kp o a k,0<=x/\x<371
 | 0,_=>⟨c,b⟩
 | k+1,h=>by
   obtain⟨f,d⟩:=kza c b e k (by omega)
   exact XMa f d (by omega)
theorem vD(l:List Spn):(qR l).Pairwise (· < ·)/\∀x∈qR l,0<=x/\x<371:=by
 have key:∀(v:List Spn) (o:List Int),o.Pairwise (· < ·)->(∀x∈o,0<=x/\x<371)->(v.foldl kP o).Pairwise (· < ·)/\∀x∈v.foldl kP o,0<=x/\x<371:=λv=>by
  induction v with
  | nil=>exact λo b a=>⟨b,a⟩
  | cons s v c=>
    intro o b a
    rw[List.foldl_cons]
    have d:=yC s.from_
    have e:=yC (s.to_ - 1)
    have:=kza b a d.1 (jW (s.to_ - 1) - jW s.from_+1).toNat (by omega)
    exact c _ this.1 this.2
 exact key _ [] .nil (by simp)
theorem VYa{o:List Int}(d:o.Pairwise (· < ·))(a:∀x∈o,0<=x/\x<371):o.length<=371:=by
 have e:o.Nodup:=d.imp λh=>by omega
 have:=XC (b:=(List.range 371).map λ(k:Nat)=>(k:Int)) e λx c=>by
  have:=a x c
  exact zt.2 ⟨x.toNat,by rw[qW];omega,by omega⟩
 simpa using this
theorem yV(l:List Spn):(qR l).length<=371:=VYa (vD l).1 (vD l).2
def wm(s:Setup)(l:List Int):List Spn:=l.flatMap (Xc s)
def j6(s:Setup)(l:List Spn):List Spn:=if z6 s then Vf l (wm s (qR l)) else []
theorem wqa(s:Setup)(d:Int):(Xc s d).length<=2:=by
 unfold Xc
 rw[zb]
 have b:=qh (λw:Spn=>decide (w.from_<w.to_)) (Kr s)
 have a:=kya s
 omega
theorem Ji(s:Setup):∀l:List Int,(wm s l).length<=2*l.length
 | []=>by simp[wm]
 | d::l=>by
   have a:=Ji s l
   have b:=wqa s d
   unfold wm at a⊢
   rw[List.flatMap_cons,zg,List.length_cons];omega
theorem XE{l:List Int}{i:Nat}(h:i<l.length):(l.map qz)[i]? =some [i64 l[i]]:=by rw[zz,zi h];rfl
theorem VZa(h:List Ob)(s:Setup)(a:SA)(k:SIn h s a)(f:SFit s)(x:AV)(l:List Spn)(J:SlOf h x 2 (l.map qJ))(K:l.length<1048576):
  ACalls Tryz.prog 118 [jg s a,x] h λr h'=>(r=spv (j6 s l)∨r= .v (.slice none 0 0)/\j6 s l=[])/\h'=h:=by
 have hex:∃r h',((r=spv (j6 s l)∨r=AV.v (.slice none 0 0)/\j6 s l=[])/\h'=h)/\ResK h h':=⟨_,_,⟨.inl rfl,rfl⟩,.refl⟩
 refine zj Tryz.f118 [.tmp 4] 30 rfl rfl rfl rfl rfl rfl (by decide) (hex) λB=>?_
 simp only[go_sem,k.ones]
 refine zh (c16 _ s a (k.app _) f) ?_
 rintro _ M ⟨rfl,N⟩
 rw[N]
 clear N M
 cases w:z6 s
 ·have t:j6 s l=[]:=by unfold j6;rw[w];rfl
  simp only[go_sem,w,qv,Bool.not_false]
  exact⟨_,by simp only[go_sem],.inr ⟨h,_,rfl,rfl,rfl,.refl,.inr ⟨rfl,t⟩,rfl⟩⟩
 have t:j6 s l=Vf l (wm s (qR l)):=by unfold j6;rw[if_pos w]
 have S:=VX w
 simp only[go_sem,w,qv,Bool.not_true]
 refine zh (Xqa _ x l (J.app _) K) ?_
 rintro _ M ⟨rfl,rfl⟩
 have o:=(vD l).2
 have E:=yV l
 have b:wm s (qR l)=wm s ((qR l).take (qR l).length):=by rw[zV]
 have p:=Ji s (qR l)
 rw[b] at t
 rw[b] at p
 obtain⟨v,Q⟩:∃v,v=qR l:=⟨_,rfl⟩
 rw[<-Q] at o E t p⊢
 simp only[go_sem,zb]
 obtain⟨F,P⟩:∃F,F=[(h.length,Ob.box 30 (qg s a))]:=⟨_,rfl⟩
 have u:(h.length,Ob.box 30 (qg s a))∈F:=by rw[P];simp
 refine zO (by decide) (λm T h'=>∃n:Nat,n<=v.length/\LIn F h h' (h.length+1) 55 143 2 ((wm s (v.take n)).map qJ)/\T 1=x/\T 5= .ptr (h.length+1) 0/\T 6= .fn (.func 190) [] [.ptr h.length 0,.ptr (h.length+1) 0]/\T 7= .sl 1 (v.map qz)/\T 16=i64 v.length/\T 17=i64 n/\m=v.length - n) v.length
  ⟨0,by omega,⟨⟨_,rfl,zl rfl (zD rfl)⟩,by omega,(λz y=>by rw[P,zW] at y;subst y;exact⟨by simp,⟨_,_,rfl⟩,by rw[zK rfl];rfl⟩),_,by rw[zG (k:=1) rfl];rfl,.inl ⟨rfl,rfl⟩⟩,by simp only[go_sem],by simp only[go_sem],by simp only[go_sem],by simp only[go_sem],by(simp only[go_sem]<;>rfl),by(simp only[go_sem]<;>rfl),rfl⟩ ?_
 rintro m T h' ⟨n,R,i,t1,t5,t6,O,j,g,rfl⟩
 simp only[go_sem,j,g]
 refine ways (λe=>?_) (λe=>?_)
 ·have d:=dlt e
  have c:=XE d
  have A:(n:Int)<v.length:=by omega
  have I:=o _ (zx d)
  have q:wm s (v.take (n+1))=wm s (v.take n)++Xc s v[n]:=by unfold wm;rw[<-zE d,List.flatMap_append];simp
  have G:=Ji s (v.take n)
  rw[zH] at G
  obtain⟨z,y⟩:∃z,z=v[n]:=⟨_,rfl⟩
  rw[<-y] at c q I
  simp only[go_sem,t6,O,g,c,A,zb,Int.toNat_natCast,zf]
  refine zh (VXa F h h' _ (h.length+1) h.length s a i (i.pre.sin k) S u (by omega) z I) ?_
  rintro _ U ⟨rfl,k6⟩
  rw[<-q] at k6
  simp only[go_sem,g]
  exact⟨v.length - (n+1),by omega,n+1,by omega,k6,t1,t5,t6,O,j,qn (by omega) rfl,rfl⟩
 ·have X:=xr e
  have C:n=v.length:=by omega
  subst C
  obtain⟨W,H,D⟩:=i.at_
  simp only[go_sem,t1,t5,H]
  refine zh (Y9a _ x W l _ (i.pre.sl J) D.rows K (by omega)) ?_
  rintro _ U ⟨rfl,rfl⟩
  rw[<-t]
  simp only[go_sem]
  obtain⟨L,V,_⟩:=i.pre
  rw[V]
  exact⟨_,by simp only[go_sem],.inr ⟨h,_,rfl,rfl,J7 _,.refl,.inl rfl,rfl⟩⟩
theorem zkb(h:List Ob)(s:Setup)(a:SA)(k:SIn h s a)(f:SFit s)(x:AV)(l:List Spn)(b:SlOf h x 2 (l.map qJ))(c:l.length<1048576):
  ACalls Tryz.prog 118 [jg s a,x] h λr h'=>r=spv (j6 s l)/\h'=h:=
 Ko ((VZa h s a k f x l b c).mono λr h' ⟨q,e⟩=>⟨q.imp_right λq=>⟨q.1,by rw[q.2];rfl⟩,e⟩)
