import Derived.Test.YtigdlmpjijhpaaaGreatKA
import Derived.Test.YtigdlmpjijhpaaaGreatK34
import Derived.Lib.AppendZerosOnto
import Derived.Lib.Walk
import Derived.Lib.SliceRun
import Derived.Lib.Hide
import Derived.Test.YtigdlmpjijhpaaaGreatK31
set_option linter.all false
namespace Go.Proofs.YtigdlmpjijhpaaaGreat.Ax
open Go Go.RowKit
section
variable {P:Program}
theorem kqa{g:Operand}{j:Array Tmp}{assign body:Code}{Q:Exit->Act->World->Prop}{a:Act}{w:World}{n c:Nat}{i:Array Value}
  (r:a.eval g= .func (.func c) #[] i) (m:∀args w,(callFunc c args).run P w= .ok (.enter c args) w)
  (h:∀(fn:FuncId) (rec:LoopState->Option Code->Loop),rec=(λst k=>{ state:=st,pending:=k,fn,tmps:=a.tmps,params:=j,assign,body,defers:=w.heap.size })->
   CallsIn Fence.wide (n - 1) P c (#[.func (.yield (w.heap.size+1)) #[] #[]]++i) ((w.alloc (.deferred (some []))).alloc (.loop (rec .ready none))) λe l=>(∃v,e= .returned v)/\
    l.heap[w.heap.size+1]? =some (.loop (rec .ready none))/\Q .normal { a with defers:={ target:= .collected w.heap.size,args:= #[] }::a.defers } (l.putObj (w.heap.size+1) (.loop (rec .exhausted none)))):
  (Code.rangeFunc g j assign body).wpIn Fence.wide n P Q a w:=by
 refine wpIn_rangeFunc ?_
 intro fn p
 obtain⟨rec,b⟩:∃rec:LoopState->Option Code->Loop,rec=λst k=>{ state:=st,pending:=k,fn,tmps:=a.tmps,params:=j,assign,body,defers:=w.heap.size }:=⟨_,rfl⟩
 obtain⟨d,f⟩:∃d,(w.alloc (.deferred (some []))).alloc (.loop (rec .ready none))=d:=⟨_,rfl⟩
 have h:=h fn rec b
 rw[f] at h
 refine⟨w.heap.size+1,[{ target:= .collected w.heap.size,args:= #[] }],d,{ target:= .fn (.func c) i,args:= #[.func (.yield (w.heap.size+1)) #[] #[]] },d,c,
  #[.func (.yield (w.heap.size+1)) #[] #[]]++i,d,?_,?_,?_,?_,λh=>(by cases h),?_⟩
 ·rw[<-f,b];exact run_enterLoop_outer _ _ _ _ _
 ·simp only[resolve,r]
  simp[go_sem]
 ·intro s _;exact trivial
 ·simp[invoke,go_sem,m]
 ·refine h.mono ?_
  rintro e t ⟨⟨v,rfl⟩,o,q⟩
  exact⟨none,_,by have:=run_endLoop (P:=P) o (by rw[b];simp);rw[b] at this ⊢;exact this,q⟩
end
def KeepB(n:Nat)(h h':List Ob):Prop:=∀(j:Nat) (ty:TypeId) (cs:List AV),n<=j->h[j]? =some (.box ty cs)->h'[j]? =some (.box ty cs)
theorem KeepB.trans{n:Nat}{a b c:List Ob}(h:KeepB n a b)(k:KeepB n b c):KeepB n a c:=λj ty cs d q=>k j ty cs d (h j ty cs d q)
theorem KeepB.raw{n i:Nat}{a:List Ob}{l o ks us o'}(hi:a[i]? =some (.raw l o ks us)):KeepB n a (a.set i (.raw l o' ks us)):=λj ty cs _ q=>by
 have:i≠j:=λe=>by rw[e,q] at hi;cases hi
 rw[zc this];exact q
theorem KeepB.mono{n m:Nat}{a b:List Ob}(h:KeepB n a b)(c:n<=m):KeepB m a b:=λj ty cs d q=>h j ty cs (by omega) q
def zqb(P:Program)(c:FuncId)(b:List AV)(Rd:List Ob->Prop)(xs:List AV):Prop:=
 ∀ (l:Nat) (K:Nat->List Ob->Prop) (a:List Ob),K 0 a->(∀i h' M,NoRes M->K i h'->K i (h'++M))->(∀i h',K i h'->Rd h')->(∃h',K xs.length h'/\ResK a h')->(∀i h',K i h'->a.length<=h'.length)->
   (∀i x h',xs[i]? =some x->K i h'->Yt P l [x] h' λh''=>K (i+1) h''/\KeepB a.length h' h'')->ACalls P c (.v (.func (.yield l) #[] #[])::b) a λ_ h'=>K xs.length h'
def RawK(h h':List Ob):Prop:=∀(j l:Nat) (o:Obj) (ks:List AV) (us:List Value),h[j]? =some (.raw l o ks us)->h'[j]? =some (.raw l o ks us)
def XCa(N:Nat)(T:Env):Env:=λi=>if i<N then T i else .bad
theorem XDa(N:Nat)(T:Env)(i:Nat):XCa N T i=if i<N then T i else .bad:=id rfl
section
variable {P:Program} {N b:Nat} {T:Env} {h:List Ob} {ds:List Deferred}
theorem Qpa{T:Env}{c:Ctx}{a:Act}(j:wU c T a):∀(n:Nat) (us:List Value),us.length=n->(∀i,i<n->us[i]? =some (a.tmps.getD i undef))->ARs c ((List.range n).map T) us:=λn us g h=>
 vxa (by simp[g]) λk x b=>by
  rw[zz] at b
  cases e:(List.range n)[k]? with
  | none=>rw[e] at b;cases b
  | some i=>
    rw[e] at b
    injection b with b
    obtain⟨f,d⟩:=zd.1 e
    rw[List.getElem_range] at d
    subst d b
    rw[js] at f
    exact⟨_,h _ f,j k⟩
theorem Qqa{T:Env}{c:Ctx}:∀ {n:Nat} {us:List Value},ARs c ((List.range n).map T) us->us.length=n/\∀i,i<n->∃u,us[i]? =some u/\AR c (T i) u:=λ{n us} k=>by
 have b:=wA k
 rw[zb,js] at b
 refine⟨b.symm,λi hi=>?_⟩
 obtain⟨u,d,a⟩:=yQ k i (by simpa using hi)
 refine⟨u,d,?_⟩
 have:nth ((List.range n).map T) i=T i:=KJ (by rw[zz,List.getElem?_range hi];rfl)
 rw[this] at a
 exact a
theorem XEa{b:FuncId}(k1:Ys P b=true):∀args w,(callFunc b args).run P w= .ok (.enter b args) w:=λargs w=>by
 have a:∃fn,P.funcs[b]? =some fn/\fn.name≠ "runtime.NumGoroutine" /\fn.body.isSome=true:=by
  unfold Ys at k1
  split at k1
  ·rename_i fn a
   simp only[zq,bne_iff_ne,ne_eq] at k1
   exact⟨fn,a,k1.1,k1.2⟩
  ·cases k1
 obtain⟨fn,g,f,e⟩:=a
 have f5:(fn.name== "runtime.NumGoroutine")=false:=by simpa using f
 have d:fn.body.isNone=false:=by cases c:fn.body<;>simp[c] at e⊢
 simp only[callFunc,Sem.run_bind,run_program,g,d,f5,Bool.false_eq_true,if_false,Result.andThen_ok,Sem.run_pure]
theorem Qra{n m l:Nat}{f:FuncId}{tmps:Array Value}{assign body:Code}{w:World}{R:Ending->World->Prop}(k:RoundIn Fence.wide n P l f tmps assign body w R):RoundIn Fence.wide m P l f tmps assign body w R:=
 ⟨k.1,λc cs _=>k.2 c cs (room_wide _)⟩
theorem zma{p:Nat}{g:Operand}{assign body:Code}{gf:FuncId}{lb:List AV}{xs:List AV}(hp:p<N)(hok1:Ys P gf=true)(hg:ev T g= .fn (.func gf) [] lb){Rd:List Ob->Prop}(hseq:zqb P gf lb Rd xs)
  (K:Nat->List Ob->Prop) (J:Nat->AV->Env->List Ob->Prop)
  (hK0:∀M,NoRes M->K 0 (h++M)) (happ:∀i h' M,NoRes M->K i h'->K i (h'++M)) (hrd:∀i h',K i h'->Rd h') (hKex:∀M,NoRes M->∃h',K xs.length h'/\ResK (h++M) h'/\RawK (h++M) h')
  (W:∀i h' j l o ks us o',h.length<=j->K i h'->h'[j]? =some (.raw l o ks us)->K i (h'.set j (.raw l o' ks us)))
  (Z:∀i x H c j l o ks us o',h.length<=j->J i x H c->c[j]? =some (.raw l o ks us)->J i x H (c.set j (.raw l o' ks us)))
  (hass:∀b l i x h',xs[i]? =some x->K i h'->RWp P N b l assign (λe H c=>e= .normal/\J i x H c/\RawK h' c/\KeepB h.length h' c) (upd (XCa N T) p x) h')
  (ι:∀b l i x H c,xs[i]? =some x->J i x H c->RWp P N b l body (λe _ h3=>e= .normal/\K (i+1) h3/\RawK c h3/\KeepB h.length c h3) H c):
  XP P N b ds (.rangeFunc g #[p] assign body) (λe ds' T' h'=>e= .normal/\T'=T/\∃D id:Nat,ds'=⟨.collected D, #[]⟩::ds/\h.length<=id/\h'[id]? =some (.raw D (.deferred (some [])) [] [])/\K xs.length h') T h:=λφ hu w g0 a r=>by
 have hgv:=jV r.t g
 rw[hg] at hgv
 obtain⟨us0,γ,e1,e2,e3⟩:=hgv
 have e2:us0.toList=[]:=e2
 have e2:us0= #[]:=by simpa using e2
 subst e2
 refine(wpIn_wide (n:=1)).1 (kqa e1 (XEa hok1) ?_)
 intro fn rec F
 obtain⟨D,hD⟩:∃D,D=w.heap.size:=⟨_,rfl⟩
 obtain⟨l,hl⟩:∃l,l=D+1:=⟨_,rfl⟩
 obtain⟨ks,hks⟩:∃ks,ks=(List.range N).map T:=⟨_,rfl⟩
 obtain⟨us,υ⟩:∃us,us=a.tmps.toList:=⟨_,rfl⟩
 have ρ:ARs (ctx w g0 (fill φ h)) ks us:=by
  rw[hks,υ]
  refine Qpa r.t N _ (by rw[qF];exact r.n) λi hi=>?_
  rw[qC,zV]
  rw[qH (by rw[r.n];exact hi)]
  rfl
 have k1:=Yj (g:=g0) r.ok r.hB (.deferred (some [])) (ks:=[]) (us:=[]) rfl
 have k2:=Yj k1.ok k1.size (.loop (rec .ready none)) (ARs.le k1.le _ _ ρ)
 have k12:=k1.trans k2
 rw[<-hD] at k12
 have hs1:(w.alloc (.deferred (some []))).heap.size=l:=by rw[World.size_alloc,hl,hD]
 rw[hs1] at k12
 obtain⟨O,y⟩:∃O,O=h++[.raw D (.deferred (some [])) [] [],.raw l (.loop (rec .ready none)) ks us]:=⟨_,rfl⟩
 have hfl:fill φ O=fill φ h++[.raw D (.deferred (some [])) [] []]++[.raw l (.loop (rec .ready none)) ks us]:=by rw[y,jW hu];simp
 rw[<-hfl] at k12
 obtain⟨W1,hW1⟩:∃W1,W1=(w.alloc (.deferred (some []))).alloc (.loop (rec .ready none)):=⟨_,rfl⟩
 rw[<-hW1] at k12⊢
 have hp1:Pre h O:=⟨_,y,zl rfl (zD rfl)⟩
 have Y:O.length=h.length+2:=by rw[y];simp
 have z:∀st L,(Loop.params (rec st L))= #[p]/\(rec st L).tmps=a.tmps/\(rec st L).assign=assign/\(rec st L).body=body/\(rec st L).state=st/\(rec st L).pending=L/\(rec st L).fn=fn:=λst L=>by rw[F];exact⟨rfl,rfl,rfl,rfl,rfl,rfl,rfl⟩
 obtain⟨KK,s⟩:∃KK:Nat->List Ob->Prop,KK=λi h'=>K i h'/\h'[h.length]? =some (.raw D (.deferred (some [])) [] [])/\h'[h.length+1]? =some (.raw l (.loop (rec .ready none)) ks us):=⟨_,rfl⟩
 have hy:∀i x h',xs[i]? =some x->KK i h'->Yt P l [x] h' λh''=>KK (i+1) h''/\KeepB O.length h' h'':=by
  intro i x h' hx hkk I ο B' w' g' vs hh hB hvs
  rw[s] at hkk
  obtain⟨q1,R,q3⟩:=hkk
  obtain⟨v,r0,rfl,hv,δ⟩:=hvs
  have δ:r0=[]:=δ
  subst δ
  obtain⟨hb1,hb2,ξ⟩:=hh.ok _ _ (qL (φ:=I) q3 rfl)
  have ψ:=run_yield (P:=P) (w:=w') (args:= #[v]) hb2 (by rw[(z _ _).1];rfl)
  rw[(z _ _).1,(z _ _).2.1,(z _ _).2.2.1,(z _ _).2.2.2.1,(z _ _).2.2.2.2.2.2] at ψ
  refine⟨_,_,_,_,ψ,λm=>Qra (n:=0) (roundIn_of_wpIn trivial ?_)⟩
  have htm:((#[p].zip #[v]).foldl (λtmps (t,a)=>tmps.setIfInBounds t a) a.tmps:Array Value)=a.tmps.setIfInBounds p v:=by simp
  have hT2:wU (ctx w' g' (fill I h')) (XCa N T) a:=λi=>by
   unfold XCa
   split
   ·rename_i hi
    rw[hks] at ξ
    obtain⟨u,z1,z2⟩:=(Qqa ξ).2 i hi
    rw[υ,qC] at z1
    rw[zV,z1]
    exact z2
   ·trivial
  have G:Rel N ⟨B',[]⟩ w' g' (fill I h') ⟨a.tmps.setIfInBounds p v,[]⟩ (upd (XCa N T) p x):=
   ⟨hh,hB,yqa (a:=a) hT2 hv (by rw[r.n];exact hp),rfl,by simp[r.n]⟩
  refine Code.wpIn_mono ?_ (hass B' l i x h' hx q1 I ο w' g' _ (by first|(rw[htm];exact G)|simpa using G))
  rintro e a1 w1 ⟨H,c,⟨rfl,ν,hrk,hkb⟩,g2,qk1,ζ,E⟩
  have A:=hrk _ _ _ _ _ q3
  have ε:=E.ok.ok _ _ (qL (φ:=I) A rfl)
  have η:{ rec .ready none with state:= .busy }=rec .busy none:=by rw[F]
  refine⟨_,run_beginRound ε.2.1 (z _ _).2.2.2.2.1,?_⟩
  rw[η]
  have kt:=Qt E.ok E.size (qL (φ:=I) A rfl) (.loop (rec .busy none))
  rw[<-jj rfl] at kt
  have S:h.length+1<c.length:=(zd.1 A).1
  have β:Rel N ⟨B',[]⟩ (w1.putObj l (.loop (rec .busy none))) g2 (fill I (c.set (h.length+1) (.raw l (.loop (rec .busy none)) ks us))) a1 H:=⟨kt.ok,kt.size,λi=>AR.le kt.le _ _ (ζ.t i),ζ.d,ζ.n⟩
  refine Code.wpIn_mono ?_ (ι B' l i x H _ hx (Z _ _ _ _ _ _ _ _ _ _ (by omega) ν A) I (ο.mono (by rw[zN];exact ZC E)) _ g2 a1 β)
  rintro e a2 w3 ⟨T3,h3,⟨rfl,hk3,X,hkb3⟩,g3,qk2,qr2,Q⟩
  have q3s:(c.set (h.length+1) (.raw l (.loop (rec .busy none)) ks us))[h.length+1]? =some (.raw l (.loop (rec .busy none)) ks us):=zp S
  have B:=X _ _ _ _ _ q3s
  have θ:=Q.ok.ok _ _ (qL (φ:=I) B rfl)
  have V:=run_endRound (P:=P) none θ.2.1
  have τ:{ rec .busy none with state:=if(none:Option Code).isNone then .ready else .done,pending:=none }=rec .ready none:=by rw[F];rfl
  rw[τ] at V
  refine⟨_,_,V,?_⟩
  have kt3:=Qt Q.ok Q.size (qL (φ:=I) B rfl) (.loop (rec .ready none))
  rw[<-jj rfl] at kt3
  have hd1:=hrk _ _ _ _ _ R
  have hd2:(c.set (h.length+1) (.raw l (.loop (rec .busy none)) ks us))[h.length]? =some (.raw D (.deferred (some [])) [] []):=by
   rw[zc (by omega)];exact hd1
  have hd3:=X _ _ _ _ _ hd2
  have ω:h.length+1<h3.length:=(zd.1 B).1
  refine⟨h3.set (h.length+1) (.raw l (.loop (rec .ready none)) ks us),g3,rfl,⟨?_,((((hkb.trans (.raw A)).trans hkb3).trans (.raw B)).mono (by rw[Y];omega))⟩,?_,(E.trans kt).trans (Q.trans kt3)⟩
  ·rw[s]
   exact⟨W _ _ _ _ _ _ _ _ (by omega) hk3 B,by rw[zc (by omega)];exact hd3,zp ω⟩
  ·exact((qk1.trans (qi A rfl)).trans qk2).trans (qi B rfl)
 have hc:=hseq l KK O
  (by rw[s];exact⟨by rw[y];exact hK0 _ (zl rfl (zD rfl)),by rw[y,zM rfl];rfl,by rw[y,zG (k:=1) rfl];rfl⟩)
  (λi h' M hM q=>by
   rw[s] at q⊢
   obtain⟨q1,R,q3⟩:=q
   exact⟨happ i h' M hM q1,ze R,ze q3⟩) (λi h' q=>by rw[s] at q;exact hrd i h' q.1)
  (by
   obtain⟨h',z1,z2,z3⟩:=hKex [.raw D (.deferred (some [])) [] [],.raw l (.loop (rec .ready none)) ks us] (zl rfl (zD rfl))
   rw[s]
   exact⟨h',⟨z1,z3 _ _ _ _ _ (by rw[zM rfl];rfl),z3 _ _ _ _ _ (by rw[zG (k:=1) rfl];rfl)⟩,by rw[y];exact z2⟩)
  (λi h' q=>by
   rw[s] at q
   have:=(zd.1 q.2.2).1
   omega) hy
 have α:ARs (ctx W1 g0 (fill φ O)) (.v (.func (.yield l) #[] #[])::lb) (Value.func (.yield l) #[] #[]::γ.toList):=⟨_,_,rfl,rfl,ARs.le k12.le _ _ e3⟩
 have C:=hc.2.2 φ (hu.mono hp1.len) b W1 g0 _ k12.ok k12.size α
 refine callsIn_wide.2 ?_
 have σ:(Value.func (.yield l) #[] #[]::γ.toList).toArray= #[.func (.yield (w.heap.size+1)) #[] #[]]++γ:=by
  rw[hl,hD];simp
 rw[σ] at C
 refine C.mono λe W2 ⟨v,_,c,g2,q1,R,q5,q6,_⟩=>⟨⟨v,q1⟩,?_⟩
 rw[s] at R
 obtain⟨R,q3,B⟩:=R
 have hraw:=q6.ok.ok _ _ (qL (φ:=φ) B rfl)
 have U:=Qt q6.ok q6.size (qL (φ:=φ) B rfl) (.loop (rec .exhausted none))
 rw[<-jj rfl] at U
 rw[<-hD, <-hl]
 have S:h.length+1<c.length:=(zd.1 B).1
 have f:=(k12.trans q6).trans U
 refine⟨hraw.2.1,_,T,c.set (h.length+1) (.raw l (.loop (rec .exhausted none)) ks us),⟨rfl,rfl,D,h.length,rfl,zo _,by rw[zc (by omega)];exact q3,W _ _ _ _ _ _ _ _ (by omega) R B⟩,g2,?_,?_,f⟩
 ·have:ResK h O:=by rw[y];exact resK_app
  exact(this.trans q5).trans (qi B rfl)
 ·exact⟨f.ok,f.size,λi=>AR.le f.le _ _ (r.t i),by simp[r.d],r.n⟩
theorem yHa:∀ {ar:List AV} {i:Nat},ar.length<=i->nth ar i= .bad
 | [],_,_=>rfl
 | x::ar,0,h=>absurd h (Nat.not_succ_le_zero _)
 | x::ar,i+1,h=>yHa (ar:=ar) (Nat.le_of_succ_le_succ h)
theorem VZa{B:Nat}{w:World}{g:Gh}{a:Act}{fn:Func}{r:AV}(m:HOk B w g h)(hB:B<=w.heap.size)(s:wU (ctx w g h) T a)(b:VG P T h fn.results.toList=some r):∃v,(results fn a.tmps).run P w= .ok v w/\AR (ctx w g h) r v:=by
 unfold VG at b
 cases j:y8 P T h fn.results.toList with
 | none=>rw[j] at b;cases b
 | some xs=>
   rw[j] at b
   injection b with b
   obtain⟨us,l,e⟩:=Q0 m hB s _ xs j
   have p:(fn.results.mapM (ZBa a.tmps)).run P w= .ok us.toArray w:=by
    rw[Array.mapM_eq_mapM_toList]
    simp[l]
   have c:(results fn a.tmps).run P w= .ok (if h:us.toArray.size=1 then us.toArray[0] else .tuple us.toArray) w:=by
    rw[Yw,Sem.run_bind,p]
    rfl
   refine⟨_,c,?_⟩
   have o:=wA e
   unfold Vja at b
   split at b
   ·rename_i x
    subst b
    obtain⟨u,q,n,k,f⟩:=e
    have f:q=[]:=f
    subst f n
    simpa using k
   ·rename_i i
    subst b
    rw[dif_neg]
    ·exact⟨us.toArray,rfl,by simpa using e⟩
    ·intro d
     have d:us.length=1:=by simpa using d
     rw[<-o] at d
     match xs,d with
     | [x],_=>exact i x rfl
def jzb(P:Program)(rs:List ResultVar)(h:List Ob)(R:AV->Prop):QH:=λe ds T h'=>
 (e= .ret∨e= .normal)/\(ds=[]∨∃D id:Nat,ds=[⟨.collected D, #[]⟩]/\h.length<=id/\h'[id]? =some (.raw D (.deferred (some [])) [] []))/\Pre h h'/\(∃r,(∀a,VG P T a rs=some r)/\r.lt h.length=true/\R r)
theorem Wz{f:FuncId}(fn:Func){c:Code}{ar:List AV}{R:AV->Prop}(rs:List ResultVar)(N:Nat)(hf:P.funcs[f]? =some fn)(Y:fn.body=some c)(hN:fn.ntmps=N)(M:fn.results.toList=rs)(U:ar.length.ble N=true)(O:Ys P f=true)(hex:∃r,R r)
  (k:∀b,XP P N b [] c (jzb P rs h R) (nth ar) h):ACalls P f ar h λr h'=>R r/\h'=h:=by
 subst hN M
 have U:=qo U
 refine⟨O,(let ⟨r,q⟩:=hex;⟨r,h,⟨q,rfl⟩,.refl⟩),λφ T B w g vs V hB j=>?_⟩
 have W:=wA j
 refine(callsIn_wide (n:=0)).1 (callsIn_of_wp_marks (F:=Fence.wide) hf Y trivial (wpIn_wide.2 ?_))
 have s:Rel fn.ntmps ⟨B,[]⟩ w g (fill φ h) { tmps:=vs.toArray++Array.replicate (fn.ntmps - vs.toArray.size) undef,defers:=[] } (nth ar):=by
  refine⟨V,hB,λi=>?_,rfl,by simp;omega⟩
  by_cases hi:i<ar.length
  ·obtain⟨u,e1,e2⟩:=yQ j i hi
   have:(vs.toArray++Array.replicate (fn.ntmps - vs.toArray.size) undef).getD i undef=u:=by
    rw[zV,Array.getElem?_append_left (by simp;omega)]
    simp[e1]
   simp only[this]
   exact e2
  ·rw[yHa (by omega)]
   trivial
 refine wp_mono (k B φ T w g _ s) λe E w' ⟨ds,T',h',⟨Z,I,x,⟨r,K,H,Q⟩⟩,g',ek,J,p⟩=>?_
 obtain⟨L,rfl,hL⟩:=x
 have fin:∀(m:World) (C:List Ob),Good B w g (fill φ h) m g' (fill φ C)->wU (ctx m g' (fill φ C)) T' E->(∃L2,C=h++L2)->∃v,(results fn E.tmps).run P m= .ok v m/\∃v' S h'' g'',Ending.returned v= .returned v'/\(R S/\h''=h)/\ResK h h''/\Good B w g (fill φ h) m g'' (fill φ h'')/\AR (ctx m g'' (fill φ h'')) S v':=by
  rintro m C l G ⟨L2,rfl⟩
  obtain⟨v,y,o⟩:=VZa (fn:=fn) l.ok l.size G (K _)
  rw[jW T] at l o
  refine⟨v,y,v,r,h,g',rfl,⟨Q,rfl⟩,.refl,l.drop rfl (by have:=V.ids;exact this),AR.less (kU m g' (fill φ h) L2) _ _ (by rw[jo];exact H) o⟩
 have main:LeavesInM Fence.wide 0 P fn E.tmps (λe w'=>∃v r h' g',e= .returned v/\(R r/\h'=h)/\ResK h h'/\Good B w g (fill φ h) w' g' (fill φ h')/\AR (ctx w' g' (fill φ h')) r v) E.defers .returning w':=by
  rw[J.d]
  rcases I with rfl|⟨D,id,rfl,A,X⟩
  ·obtain⟨v,y,o⟩:=fin w' _ p J.t ⟨L,rfl⟩
   exact⟨v,y,o⟩
  ·have z:=p.ok.ok _ _ (qL (φ:=φ) X rfl)
   have a:=Qt p.ok p.size (qL (φ:=φ) X rfl) (.deferred none)
   rw[<-jj rfl] at a
   obtain⟨v,y,o⟩:=fin _ _ (p.trans a) (λi=>AR.le a.le _ _ (J.t i)) ⟨L.set (id - h.length) _,by rw[zU _ _ A]⟩
   exact⟨by simp,.inl ⟨D,_,rfl,run_takeDeferred z.2.1,v,y,o⟩⟩
 rcases Z with rfl|rfl
 ·exact main
 ·exact main
end
theorem KeepB.app{n:Nat}{a M:List Ob}:KeepB n a (a++M):=λj ty cs _ q=>ze q
theorem KeepB.setL{n i:Nat}{a:List Ob}{o:Ob}(hi:i<n):KeepB n a (a.set i o):=λj ty cs b q=>by
 rw[zc (by omega)];exact q
theorem KeepB.setR{n i:Nat}{a:List Ob}{o:Ob}{ty e rows st}(hi:a[i]? =some (.row ty e rows st)):KeepB n a (a.set i o):=λj ty cs b q=>by
 have:i≠j:=λe=>by rw[e,q] at hi;cases hi
 rw[zc this];exact q
theorem RawK.trans{a b c:List Ob}(h:RawK a b)(k:RawK b c):RawK a c:=λj l o ks us q=>k j l o ks us (h j l o ks us q)
theorem RawK.app{a M:List Ob}:RawK a (a++M):=λj l o ks us q=>ze q
theorem RawK.setB{i:Nat}{a:List Ob}{o:Ob}{ty cs}(hi:a[i]? =some (.box ty cs)):RawK a (a.set i o):=λj l _ ks us q=>by
 have:i≠j:=λe=>by rw[e,q] at hi;cases hi
 rw[zc this];exact q
theorem RawK.setR{i:Nat}{a:List Ob}{o:Ob}{ty e rows st}(hi:a[i]? =some (.row ty e rows st)):RawK a (a.set i o):=λj l _ ks us q=>by
 have:i≠j:=λe=>by rw[e,q] at hi;cases hi
 rw[zc this];exact q
section
variable {F:List (Nat × Ob)} {h0 h:List Ob} {i bty ty e:Nat} {rows rows':List (List AV)}
theorem LIn.raw(k:LIn F h0 h i bty ty e rows){j l o ks us o'}(m:h0.length<=j)(a:h[j]? =some (.raw l o ks us)):LIn F h0 (h.set j (.raw l o' ks us)) i bty ty e rows:=by
 obtain⟨k1,k2,k3,x,k4,k5⟩:=k
 have c:∀(z:Nat) t cs,h[z]? =some (.box t cs)->(h.set j (.raw l o' ks us))[z]? =some (.box t cs):=λz t cs q=>by
  have:j≠z:=λe=>by rw[e,q] at a;cases a
  rw[zc this];exact q
 refine⟨k1.set m rfl,k2,λz b=>⟨(k3 z b).1,(k3 z b).2.1,?_⟩,x,c _ _ _ k4,?_⟩
 ·obtain⟨r,⟨t,cs,g⟩,f⟩:=k3 z b
  rw[g] at f⊢
  exact c _ _ _ f
 ·rcases k5 with⟨rfl,p⟩|⟨id,st,n,rfl,d⟩
  ·exact .inl ⟨rfl,p⟩
  ·refine .inr ⟨id,st,n,rfl,?_⟩
   have:j≠id:=λe=>by rw[e,d] at a;cases a
   rw[zc this];exact d
theorem LIn.box(k:LIn F h0 h i bty ty e rows):∃x,h[i]? =some (.box bty [x]):=⟨_,k.at_.choose_spec.1⟩
theorem LIn.raws(k:LIn F h0 h i bty ty e rows){M:List Ob}{o:Ob}:RawK h ((h++M).set i o):=by
 obtain⟨x,a⟩:=k.box
 exact RawK.app.trans (.setB (ze a))
theorem LIn.raws_own(k:LIn F h0 h i bty ty e rows){M:List Ob}{o o':Ob}{id:Nat}{b ee:Nat}{a:List (List AV)}{st:Nat}(d:h[id]? =some (.row b ee a st)):RawK h (((h++M).set id o').set i o):=by
 obtain⟨x,f⟩:=k.box
 have c:id≠i:=λq=>by rw[q,f] at d;cases d
 exact(RawK.app.trans (.setR (ze d))).trans (.setB (by rw[zc c];exact ze f))
theorem LIn.anyR(k:LIn F h0 h i bty ty e rows)(rows':List (List AV)):∃h',LIn F h0 h' i bty ty e rows'/\ResK h h'/\RawK h h':=by
 have q:=k.push_nil (M:=[.row ty e rows' 0]) (zD rfl) (id:=h.length) (zo _) (by rw[zM rfl];rfl)
 exact⟨_,q,k.pre.resK q.pre,k.raws⟩
end
section
variable {P:Program} {N b:Nat} {T:Env} {h:List Ob} {ds:List Deferred}
def XFa(P:Program)(N b:Nat)(ds:List Deferred)[x:Held (Code × QH)](T:Env)(h:List Ob):Prop:=XP P N b ds x.it.1 x.it.2 T h
theorem yIa{c:Code}{X:QH}(k:XP P N b ds c X T h): @XFa P N b ds ⟨(c,X)⟩ T h:=k
theorem qVa{c:Code}{X Y:QH}(k:XP P N b ds c X T h)(i:∀e ds T h,X e ds T h->Y e ds T h):XP P N b ds c Y T h:=λφ l w g a r=>
 wp_mono (k φ l w g a r) λe m w' ⟨d,f,h',j,q⟩=>⟨d,f,h',i _ _ _ _ j,q⟩
end
section
variable {P:Program} {N b:Nat} {T:Env} {h:List Ob} {ds:List Deferred}
def wsa(P:Program)(N b:Nat)(ds:List Deferred)[x:Held (Code × QH)]:xV
 | .normal,T,h=> @XFa P N b ds x T h
 | e,T,h=>x.it.2 e ds T h
theorem XGa(x:Held (Code × QH)): @wsa P N b ds x .normal T h= @XFa P N b ds x T h:=id rfl
theorem XHa(c:Code)(X:QH): @wsa P N b ds ⟨(c,X)⟩ .ret T h=X .ret ds T h:=id rfl
attribute [go_sem] XGa XHa
theorem kK{c c':Code}{X:QH}(a:okC N c=true)(k:wpC P N ⟨b,ds⟩ c (@wsa P N b ds ⟨(c',X)⟩) T h):XP P N b ds (.seq c c') X T h:=
 zla (yGa (qD _ a k) λe T h q=>by cases e<;>exact q)
theorem qWa{c:Code}{X:QH}(a:okC N c=true)(k:wpC P N ⟨b,ds⟩ c (λe T h=>X e ds T h) T h):XP P N b ds c X T h:=
 yGa (qD _ a k) λe T h q=>q
theorem XIa{rs:List ResultVar}{h0 h':List Ob}{T:Env}{R:AV->Prop}{ds:List Deferred}(a:ds=[]∨∃D id:Nat,ds=[⟨.collected D, #[]⟩]/\h0.length<=id/\h'[id]? =some (.raw D (.deferred (some [])) [] []))(b:Pre h0 h'){r:AV}(e:∀f,VG P T f rs=some r)(c:r.lt h0.length=true)(d:R r):jzb P rs h0 R .ret ds T h':=
 ⟨.inl rfl,a,b,⟨r,e,c,d⟩⟩
end
end Go.Proofs.YtigdlmpjijhpaaaGreat.Ax
namespace Go.Proofs.YtigdlmpjijhpaaaGreat.Ax
open Go Go.Proofs
set_option maxRecDepth 100000
theorem j0a{v:List Spn}{i:Nat}{k:Int}(h:i<v.length):jl k (v.drop i)=(if(v[i]).from_>k then [⟨k,(v[i]).from_⟩] else [])++jl (v[i]).to_ (v.drop (i+1)):=by
 rw[qU h,jl]
theorem qXa{α:Type}{L r:List α}{n:Nat}{x:α}(h:L.drop n=x::r):L[n]? =some x/\L.drop (n+1)=r:=by
 have a:(L.drop n)[0]? =some x:=by rw[h];rfl
 rw[List.getElem?_drop] at a
 refine⟨a,?_⟩
 rw[<-List.drop_drop,h];rfl
theorem kra{α:Type}{L:List α}{n:Nat}(h:L.drop n=[])(a:n<=L.length):n=L.length:=by
 have:(L.drop n).length=0:=by rw[h];rfl
 rw[List.length_drop] at this
 omega
def zna(s:Spn):AV:= .ag (qJ s)
theorem Qsa(j:Nat)(v:List Spn)(P:v.length<1048576):zqb Tryz.prog 246 [.ptr j 0] (λh=>h[j]? =some (.box 55 [spv v])) ((jl 0 v).map zna):=by
 intro l K H o d E t u L
 have hex:∃(r:AV) (h':List Ob),K ((jl 0 v).map zna).length h'/\ResK H h':=by
  obtain⟨h',q⟩:=t
  exact⟨.tup [],h',q⟩
 have O:=E 0 H o
 refine zi Tryz.f246 [] 34 rfl rfl rfl rfl rfl rfl (by decide) (hex) λB=>?_
 simp only[go_sem,O,zb]
 refine zI (by decide) (λm T h'=>∃(i n:Nat) (k:Int),i<=v.length/\n<=(jl 0 v).length/\(jl 0 v).drop n=jl k (v.drop i)/\K n h'/\T 0= .v (.func (.yield l) #[] #[])/\T 3=i64 k/\T 6=spv v/\T 7=i64 v.length/\T 8=i64 i/\m=v.length - i) v.length
  ⟨0,0,0,by omega,by omega,rfl,o,by simp only[go_sem],by simp only[go_sem],by simp only[go_sem],by(simp only[go_sem]<;>rfl),by(simp only[go_sem]<;>rfl),rfl⟩ ?_
 rintro m T h' ⟨i,n,k,hi,J,a,g,t0,t3,t6,F,t8,rfl⟩
 simp only[go_sem,F,t8]
 refine ways (λe=>?_) (λe=>?_)
 ·have s:=dlt e
  have f:=Ji s
  have w:(i:Int)<v.length:=by omega
  rw[j0a s] at a
  obtain⟨z,M⟩:∃z,z=v[i]:=⟨_,rfl⟩
  rw[<-M] at f a
  simp only[go_sem,t3,t6,t8,f,w,zb,Int.toNat_natCast,zh]
  cases q:decide (z.from_>k)
  ·rw[if_neg (of_decide_eq_false q),List.nil_append] at a
   simp only[go_sem,q,t3,t8,qt]
   exact⟨v.length - (i+1),by omega,i+1,n,_,by omega,J,a,d _ _ _ (zD rfl) g,t0,rfl,t6,F,qf (by omega) rfl,rfl⟩
  ·rw[if_pos (of_decide_eq_true q)] at a
   obtain⟨p,A⟩:=qXa a
   have x:n<(jl 0 v).length:=(zd.1 p).1
   simp only[go_sem,q,t0,t3,t8,qt]
   refine JQ (L n (zna ⟨k,z.from_⟩) _ (by rw[zz,p];rfl) (d _ _ _ (zD rfl) g)) ?_
   rintro I ⟨c,C⟩
   have D:I[h'.length]? =some (.box 143 (qJ z)):=C _ _ _ (u _ _ g) (by rw[zM rfl];rfl)
   simp only[go_sem,q,t0,t3,t8,qt,D]
   exact⟨v.length - (i+1),by omega,i+1,n+1,_,by omega,by omega,A,c,rfl,t6,F,qf (by omega) rfl,rfl⟩
 ·have N:=j9 e
  have y:i=v.length:=by omega
  subst y
  rw[List.drop_length,jl] at a
  simp only[go_sem,t3]
  refine ways (λG=>?_) (λG=>?_)
  ·rw[if_pos (of_decide_eq_true G)] at a
   obtain⟨p,A⟩:=qXa a
   have x:n<(jl 0 v).length:=(zd.1 p).1
   simp only[go_sem,t0,t3]
   refine JQ (L n (zna ⟨k,32054400⟩) _ (by rw[zz,p];rfl) g) ?_
   rintro I ⟨c,_⟩
   have b:n+1=((jl 0 v).map zna).length:=by
    rw[zb];exact kra A (by omega)
   rw[b,zb] at c
   simp only[go_sem]
   exact⟨_,rfl,.inl c⟩
  ·rw[if_neg (of_decide_eq_false G)] at a
   have b:n=((jl 0 v).map zna).length:=by
    rw[zb];exact kra a J
   rw[b,zb] at g
   simp only[go_sem]
   exact⟨_,rfl,.inl g⟩
theorem V0a(h:List Ob)(v:List Spn):ACalls Tryz.prog 193 [spv v] h λr h'=>r= .fn (.func 246) [] [.ptr h.length 0]/\h'=h++[.box 55 [spv v]]:=by
 refine zi Tryz.f193 [.tmp 2] 4 rfl rfl rfl rfl rfl rfl (by decide) (⟨_,_,⟨rfl,rfl⟩,resK_app⟩) λB=>?_
 simp only[go_sem]
 exact⟨_,rfl,.inl ⟨rfl,rfl⟩⟩
theorem Kq(h:List Ob)(x y:AV)(a b:List Spn)(f:SlOf h x 2 (a.map qJ))(hy:SlOf h y 2 (b.map qJ))(W:a.length<1048576)(hb:b.length<524288):
  ACalls Tryz.prog 119 [x,y] h λr h'=>r=spv (jD a b)/\h'=h:=by
 refine Wz Tryz.f119 [.tmp 4] 18 rfl rfl rfl rfl rfl rfl (⟨_,rfl⟩) λbs=>?_
 refine kK (by decide) ?_
 simp only[go_sem]
 refine kK (by decide) ?_
 simp only[go_sem]
 refine zla ?_
 refine kK (by decide) ?_
 simp only[go_sem]
 refine zg (J9 _ y b (hy.app _) (by omega)) ?_
 rintro _ h3 ⟨rfl,rfl⟩
 simp only[go_sem]
 refine zg (V0a _ (qz b)) ?_
 rintro _ h4 ⟨rfl,rfl⟩
 simp only[go_sem]
 have C:(qz b).length<1048576:=by have:=qj b;omega
 obtain⟨v,T⟩:∃v,v=qz b:=⟨_,rfl⟩
 rw[<-T] at C⊢
 have β:=Kn v 0
 have Z:v.length<524288:=by have:=qj b;rw[T];omega
 have base:LIn [(h.length+1,.box 55 [spv v])] h (h++[.box 55 [.v (.slice none 0 0)],.box 55 [spv v]]) h.length 55 143 2 []:=⟨⟨_,rfl,zl rfl (zD rfl)⟩,zo _,(λz P=>by
  cases P with
  | head=>exact⟨by show h.length+1≠h.length;omega,⟨_,_,rfl⟩,by rw[zG (k:=1) rfl];rfl⟩
  | tail _ P=>cases P),_,by rw[zM rfl];rfl,.inl ⟨rfl,rfl⟩⟩
 have t:jD a b=Vg a (jl 0 v):=by rw[T];rfl
 refine yIa (Wy (qVa (zma (p:=10) (by decide) rfl (by simp only[go_sem]) (Qsa (h.length+1) v C)
  (λn h'=>LIn [(h.length+1,.box 55 [spv v])] h h' h.length 55 143 2 (((jl 0 v).take n).map qJ))
  (λn x J d=>J 5= .ptr h.length 0/\∃s j,(jl 0 v)[n]? =some s/\J 6= .ptr j 0/\d[j]? =some (.box 143 (qJ s))/\LIn [(h.length+1,.box 55 [spv v])] h d h.length 55 143 2 (((jl 0 v).take n).map qJ))
  ?_ (λn h' M I k=>k.app I) (λn h' k=>k.keep (.head _)) ?_ ?_ ?_ ?_ ?_) ?_))
 ·exact λM I=>base.app I
 ·intro M I
  exact(base.app I).anyR _
 ·intro n h' j l o ks us o' R k F
  exact k.raw (Nat.le_trans (by rw[zf];exact Nat.le_add_right _ _) R) F
 ·rintro n x J d j l o ks us o' R ⟨t5,s,m,S,O,E,k⟩ F
  refine⟨t5,s,m,S,O,?_,k.raw (Nat.le_trans (by rw[zf];exact Nat.le_add_right _ _) R) F⟩
  have:j≠m:=λe=>by rw[e,E] at F;cases F
  rw[zc this];exact E
 ·intro X l n x h' f k
  rw[zz] at f
  cases N:(jl 0 v)[n]? with
  | none=>rw[N] at f;cases f
  | some s=>
    rw[N] at f
    injection f with f
    subst f
    refine Jk (by decide) (by decide) ?_
    simp only[go_sem,XDa,zna]
    exact⟨⟨s,h'.length,rfl,rfl,by rw[zM rfl];rfl,k.app (zD rfl)⟩,.app,.app⟩
 ·rintro X l n x J d f ⟨t5,s,m,S,O,E,k⟩
  obtain⟨V,c,u⟩:=k.at_
  refine qUa (Jk (by decide) (by decide) ?_)
  have H:(((jl 0 v).take n).length+1)*17<=140737488355328:=by rw[zJ];omega
  have w:((jl 0 v).take n).map qJ++[qJ s]=((jl 0 v).take (n+1)).map qJ:=by
   obtain⟨Y,N⟩:=zd.1 S
   rw[<-zE Y,zw,N];rfl
  have hi:=k.lt
  rcases u with⟨rfl,G⟩|⟨id,st,u1,rfl,A⟩
  ·rw[G,List.nil_append] at w
   have g:∀M,(d++M)[h.length]? =some (.box 55 [.v (.slice none 0 0)]):=λM=>ze c
   simp only[go_sem,t5,O,E,c,g]
   have q:=k.push_nil (M:=[.row 143 2 [qJ s] 0,.row 143 2 [qJ s] 0]) (zl rfl (zD rfl)) (id:=d.length+1) (by omega) (by rw[zG (k:=1) rfl];rfl)
   refine⟨by rw[<-w];exact q,k.raws,KeepB.app.trans (.setL (by omega))⟩
  ·have hg:∀M,(d++M)[id]? =some (.row 143 2 (((jl 0 v).take n).map qJ) st):=λM=>ze A
   have g:∀M,(d++M)[h.length]? =some (.box 55 [.tl id st]):=λM=>ze c
   have Q:id≠h.length:=λq=>by rw[q,c] at A;cases A
   have B:∀M o',((d++M).set id o')[h.length]? =some (.box 55 [.tl id st]):=λM o'=>by
    rw[zc Q];exact g M
   simp only[go_sem,t5,O,E,c,g,hg,B,zb,H]
   have q:=k.push_own (M:=[.row 143 2 [qJ s] 0]) (zD rfl) u1 A (rows':=((jl 0 v).take (n+1)).map qJ)
   refine⟨by rw[<-w] at q ⊢;exact q,k.raws_own A,(KeepB.app.trans (.setR (ze A))).trans (.setL (by omega))⟩
 ·rintro e ds J d ⟨rfl,rfl,D,id,rfl,hid,K,k⟩
  rw[zf] at hid
  rw[zb,zP] at k
  obtain⟨V,c,u⟩:=k.at_
  have i:=k.pre
  refine⟨rfl,(kK (by decide) ?_:XP _ _ _ _ _ _ _ _)⟩
  simp only[go_sem,c]
  have U:SlOf d x 2 (a.map qJ):=by
   obtain⟨L,rfl,_⟩:=i
   exact f.app _
  refine zg (zmb _ x V a (jl 0 v) U u.rows W (by omega)) ?_
  rintro _ h6 ⟨rfl,rfl⟩
  simp only[go_sem]
  refine yIa (qWa (by decide) ?_)
  simp only[go_sem]
  exact XIa (.inr ⟨D,id,rfl,by omega,K⟩) i (r:=spv (Vg a (jl 0 v))) (λ_=>rfl) (Jh _) (by rw[t])
theorem jAb(h:List Ob)(x:AV)(l:List Spn)(n:Int)(b:SlOf h x 2 (l.map qJ))(t:l.length<524288)(v:Fit n):
  ACalls Tryz.prog 284 [x,i64 n] h λr h'=>r=spv (J7 l n)/\h'=h:=by
 refine Ko ?_
 refine zi Tryz.f284 [.tmp 4] 16 rfl rfl rfl rfl rfl rfl (by decide) (⟨_,_,⟨.inl rfl,rfl⟩,.refl⟩) λB=>?_
 simp only[go_sem]
 refine ways (λe=>?_) (λe=>?_)
 ·simp only[go_sem]
  exact⟨_,rfl,.inl ⟨.inr ⟨rfl,by unfold J7;rw[if_pos (of_decide_eq_true e)];rfl⟩,rfl⟩⟩
 ·have a:¬ n<=0:=of_decide_eq_false e
  simp only[go_sem]
  refine zg (yEa _ x l b (by omega)) ?_
  rintro _ u ⟨rfl,rfl⟩
  have o:=zda (l:=qz l) (λs g=>va s g)
  have k:=qj l
  obtain⟨m,d⟩:∃m:Int,m=if 32054400<n then 32054400 else n:=⟨_,rfl⟩
  have c:m=min n 32054400:=by rw[d];split<;>omega
  have j:0<m/\m<=32054400:=by omega
  have i:IntKind.wrap .i64 (jR (qz l) - m)=jR (qz l) - m:=qp (n:=jR (qz l) - m) (by unfold Fit;omega)
  simp only[go_sem, <-d,i]
  refine zg (jZa _ x l _ b (by omega) (by unfold Fit;omega)) ?_
  rintro _ p ⟨rfl,rfl⟩
  simp only[go_sem]
  have f:(qP l (jR (qz l) - m)).length<=(qz l).length:=xR _ _
  refine zg (Kq _ x _ l (qP l (jR (qz l) - m)) b (xb _) (by omega) (by omega)) ?_
  rintro _ q ⟨rfl,rfl⟩
  simp only[go_sem]
  exact⟨_,rfl,.inl ⟨.inl (by unfold J7;rw[if_neg a, <-c];rfl),rfl⟩⟩
open Go.RowKit
attribute [go_sem] Yza YAa YZa jeb xQb Yka qDb qEb Yla qFb qGb qHb qIb qJb qKb Yma Yna Yoa Ypa Yqa Yra qLb qMb qNb qOb qPb qQb qRb qSb qTb qUb qVb qWb Jza JAa Ysa qXb qYb qZb xDb q0b q1b Yta q2b q3b Vka JBa q4b q5b q6b Yua Yva Vla q7b Vma q8b JCa Jya Ywa ZDa Vna q9b ty3 qwb jab jbb Voa Yxa jcb qxb Yya xEb jdb YYa ty4 xFb qyb qzb ty5 qAb qBb xGb xHb xIb xJb xKb Vpa xLb xMb xNb xOb ty9 qCb xPb
theorem qYa(z:Array Value)(k:Nat):(Builtin.zeroCells z k).size=k*z.size:=by
 simp[Builtin.zeroCells]
theorem V1a:∃i z,Tryz.prog.info? 143=some i/\i.zero=some z/\i.size=2/\i.bytes=16/\z.cells.size=2:=by
 have h:(Tryz.prog.info? 143).map (λi=>(i.zero,i.size,i.bytes))=some (some (.agg #[.int .i64 0,.int .i64 0]),2,16):=by kernel_rfl
 cases hi:Tryz.prog.info? 143 with
 | none=>rw[hi] at h;cases h
 | some i=>
   rw[hi] at h
   injection h with h
   injection h with h1 h2
   injection h2 with h2 h3
   exact⟨i,_,rfl,h1,h2,h3,rfl⟩
set_option maxHeartbeats 1000000 in
theorem XJa(n:Nat)(w:World)(t:n<=1000000000000):Calls Tryz.prog 245 #[.slice none 0 0,.int .i64 (n:Int)] w λe w'=>∃v,e= .returned v/\Below w.heap.size w w'/\w'.ownsRow w.heap.size 143 2 v 0 []/\∀b,v.ownBlock=some b->w.heap.size<=b:=by
 by_cases h0:n=0
 ·subst h0
  go_enter Tryz.func245,Tryz.ntmps245
  go_wp2
  go_ret
  exact⟨_,rfl,Below.refl _ _,World.ownsRow_nil _ _ _ _,λb a=>by cases a⟩
 ·obtain⟨i,z,hi,l,q,a,j⟩:=V1a
  have f:∀ty,(Builtin.append_ #[55,3] ty #[.slice none 0 0,.int .i64 (n:Int)]).run Tryz.prog w=
    .ok (.slice (some ⟨w.heap.size,0,none⟩) n (grownCap w n 0 143)) (w.drew.alloc (.cells (#[]++Builtin.zeroCells z.cells n++Builtin.zeroCells z.cells (grownCap w n 0 143 - n)) 143)):=λty=>by
   have h:=Lib.run_append_grow_zeros w 55 3 ty 143 i z .i64 .i64 Tryz.underlying55 Tryz.underlying3 hi l none 0 0 [] (run_firstCells_none w.drew i.size 0 0 0) n (by omega) (by omega) (by omega) (by omega)
    (by rw[a];omega) (by rw[Nat.zero_add];exact growslice_fits (by omega) (by rw[a];omega))
   rw[Nat.zero_add] at h
   exact h
  have k:n<=grownCap w n 0 143:=grownCap_ge w _ _ _
  have c:=grownCap_le_maxLen w n 0 143 (by unfold maxLen;omega)
  obtain⟨G,p⟩:∃G,G=grownCap w n 0 143:=⟨_,rfl⟩
  rw[<-p] at f k c
  obtain⟨cs,d⟩:∃cs,cs=(#[]++Builtin.zeroCells z.cells n++Builtin.zeroCells z.cells (G - n):Array Value):=⟨_,rfl⟩
  rw[<-d] at f
  have g:cs.size=G*2:=by rw[d];simp only[Array.size_append,qYa,j];simp;omega
  have o:G<=9223372036854775807:=by unfold maxLen at c;omega
  have m:(0:Int)<(n:Int):=by omega
  have s:=Lib.hid (show(w.drew.alloc (.cells cs 143)).ownsRow w.heap.size 143 2 (.slice (some ⟨w.heap.size,0,none⟩) 0 G) 0 [] from
   ⟨rfl,.inr ⟨w.heap.size,G,cs,rfl,zo _,heap_alloc_new w.drew _,Nat.zero_le _,c,g,by simp⟩⟩)
  have r:=Lib.hid (show Below w.heap.size w (w.drew.alloc (.cells cs 143)) from(show Below w.heap.size w w.drew from⟨rfl,rfl,rfl,zo _,λ_ _=>rfl⟩).alloc (zo _) _)
  clear p d q a l hi g c j
  go_enter Tryz.func245,Tryz.ntmps245
  go_wp2_with (at_builtin;refine Lib.wpList_append_run _ rfl _ _ _ _ rfl _ _ rfl rfl _ _ (f _) ?_)
  go_ret
  exact⟨_,rfl,r.out,s.out,λb a=>by injection a with a;subst a;exact zo _⟩
theorem jBb(h:List Ob)(n:Nat)(p:n<=1000000000000):ACalls Tryz.prog 245 [.v (.slice none 0 0),i64 n] h λr h'=>r= .tl h.length 0/\h'=h++[.row 143 2 [] 0]:=by
 refine⟨rfl,⟨_,_,⟨rfl,rfl⟩,resK_app⟩,λφ o B w g vs q hB a=>?_⟩
 obtain⟨s,A,rfl,c,l,z,rfl,f,b⟩:=a
 have c:s= .slice none 0 0:=c
 have f:l= .int .i64 (n:Int):=f
 have b:z=[]:=b
 subst c f b
 refine(XJa n w p).mono λe w' ⟨v,m,t,i,k⟩=>?_
 obtain⟨k1,k2⟩:=JO q hB (ty:=143) (e:=2) (by decide) (xs:=[]) (λx j=>by cases j) 0 t ⟨i.1,i.2.imp id λ⟨g,cap,cur,y,u,r⟩=>⟨g,cap,cur,y,Nat.le_trans hB u,r⟩⟩ rfl k
 rw[jo] at k1 k2
 have d:fill φ (h++[.row 143 2 [] 0])=fill φ h++[.row 143 2 [] 0]:=jW o
 rw[<-d] at k1 k2
 exact⟨v,_,_,_,m,⟨rfl,rfl⟩,resK_app,k1,k2⟩
theorem j1a(l:List Spn):((l.map qJ).all λr=>r.length==2 && r.all AV.one)=true:=by
 rw[qb]
 intro r a
 obtain⟨s,_,rfl⟩:=zr.1 a
 rfl
def Zs(xs:List (AV × List Spn)):List Spn:=xs.flatMap (·.2)
theorem qZa{xs:List (AV × List Spn)}{k:Nat}(h:k<xs.length):Zs (xs.take (k+1))=Zs (xs.take k)++xs[k].2:=by
 unfold Zs
 rw[<-zE h,List.flatMap_append];simp
theorem yJa(xs:List (AV × List Spn))(k:Nat):(Zs (xs.take k)).length<=(Zs xs).length:=by
 conv=>rhs;rw[<-qQ k xs]
 simp only[Zs,List.flatMap_append,zf]
 omega
theorem XKa(h:List Ob)(p:AV)(xs:List (AV × List Spn))(C:SlOf h p 1 (xs.map λq=>[q.1]))(G:∀q∈xs,SlOf h q.1 2 (q.2.map qJ))(K:xs.length<1048576)(J:(Zs xs).length<1073741824):
  ACalls Tryz.prog 188 [p] h λr h'=>∃L,h'=h++L/\NoRes L/\New h 2 r ((Zs xs).map qJ) L:=by
 have hex:∃r h',(∃L,h'=h++L/\NoRes L/\New h 2 r ((Zs xs).map qJ) L)/\ResK h h':=
  ⟨.sl 2 _,_,⟨[],rfl,jh,λ_ _=>⟨rfl,λ_=>rfl⟩⟩,resK_app⟩
 have v:=C.rows
 refine zi Tryz.f188 [.tmp 2] 36 rfl rfl rfl rfl rfl rfl (by decide) (hex) λB=>?_
 simp only[go_sem,v,zb]
 refine zI (by decide) (λm T h'=>∃i:Nat,i<=xs.length/\h'=h/\T 0=p/\T 3=i64 (Zs (xs.take i)).length/\T 9=p/\T 10=i64 xs.length/\T 11=i64 i/\m=xs.length - i) xs.length
  ⟨0,by omega,rfl,by simp only[go_sem],by(simp only[go_sem]<;>rfl),by simp only[go_sem],by(simp only[go_sem]<;>rfl),by(simp only[go_sem]<;>rfl),rfl⟩ ?_
 rintro m T h' ⟨i,hi,rfl,t0,t3,t9,t10,d,rfl⟩
 simp only[go_sem,t10,d]
 refine ways (λe=>?_) (λe=>?_)
 ·have b:=dlt e
  have c:(xs.map λq=>[q.1])[i]? =some [xs[i].1]:=by rw[zz,zj b];rfl
  have f:(i:Int)<xs.length:=by omega
  have j:=G _ (zy b)
  have a:=qZa b
  have l:=yJa xs (i+1)
  obtain⟨q,s⟩:∃q,q=xs[i]:=⟨_,rfl⟩
  rw[<-s] at c j a
  have o:=j.rows
  have g:=C.at (i:=i) (by rw[zb];exact b)
  have u:=j.cells
  rw[a,zf] at l
  have I:IntKind.wrap .i64 (((Zs (xs.take i)).length:Int)+(q.2.length:Int))=((Zs (xs.take (i+1))).length:Int):=by
   rw[a,zf]
   exact(qp (n:=((Zs (xs.take i)).length:Int)+(q.2.length:Int)) (by unfold Fit;omega)).trans (by omega)
  simp only[go_sem,t3,t9,d,g,c,v,f,u,o,I,zb,Int.toNat_natCast,zh]
  have H:decide (((Zs (xs.take (i+1))).length:Int)<0)=false:=by rw[decide_eq_false_iff_not];omega
  simp only[go_sem,H,d]
  exact⟨xs.length - (i+1),by omega,i+1,by omega,t0,rfl,t9,t10,qf (by omega) rfl,rfl⟩
 ·have E:=j9 e
  have k:i=xs.length:=by omega
  subst k
  rw[zP] at t3
  simp only[go_sem,t3]
  refine zg (jBb _ (Zs xs).length (by omega)) ?_
  rintro _ F ⟨rfl,rfl⟩
  have x:=(C.app [.row 143 2 [] 0]).rows
  simp only[go_sem,t0,x,zb]
  refine zI (by decide) (λm T F=>∃(i st:Nat),i<=xs.length/\F=h'++[.row 143 2 ((Zs (xs.take i)).map qJ) st]/\T 6= .tl h'.length st/\T 25=p/\T 26=i64 xs.length/\T 27=i64 i/\m=xs.length - i) xs.length
   ⟨0,0,by omega,rfl,by simp only[go_sem],by simp only[go_sem],by(simp only[go_sem]<;>rfl),by(simp only[go_sem]<;>rfl),rfl⟩ ?_
  clear t0 t9 t10 t3 d
  rintro m T F ⟨i,st,hi,rfl,t6,t25,y,w,rfl⟩
  simp only[go_sem,y,w]
  refine ways (λe=>?_) (λe=>?_)
  ·have b:=dlt e
   have c:(xs.map λq=>[q.1])[i]? =some [xs[i].1]:=by rw[zz,zj b];rfl
   have f:(i:Int)<xs.length:=by omega
   have j:=G _ (zy b)
   have a:=qZa b
   have l:=yJa xs (i+1)
   obtain⟨q,s⟩:∃q,q=xs[i]:=⟨_,rfl⟩
   rw[<-s] at c j a
   have D:=(C.app [.row 143 2 ((Zs (xs.take i)).map qJ) st]).rows
   have o:=(j.app [.row 143 2 ((Zs (xs.take i)).map qJ) st]).rows
   have u:=j.cells
   have g:=(C.app [.row 143 2 ((Zs (xs.take i)).map qJ) st]).at (i:=i) (by rw[zb];exact b)
   have A:=j1a q.2
   rw[a,zf] at l
   have z:((Zs (xs.take i)).length+q.2.length)*17<=140737488355328:=by omega
   have t:(h'++[.row 143 2 ((Zs (xs.take i)).map qJ) st])[h'.length]? =some (.row 143 2 ((Zs (xs.take i)).map qJ) st):=by rw[zM rfl];rfl
   simp only[go_sem,t6,t25,w,g,A,c,D,f,u,o,z,t,zb,Int.toNat_natCast,zh]
   exact⟨xs.length - (i+1),by omega,i+1,st+1,by omega,by rw[a,zw],rfl,y,qf (by omega) rfl,rfl⟩
  ·have E:=j9 e
   have k:i=xs.length:=by omega
   subst k
   simp only[go_sem,t6]
   exact⟨_,rfl,.inl ⟨_,rfl,zD rfl,OwnS.new (h0:=h') (ty:=143) (.inr ⟨h'.length,st,zo _,rfl,by rw[zP,zM rfl];rfl⟩) (zo _)⟩⟩
end Go.Proofs.YtigdlmpjijhpaaaGreat.Ax
namespace Go.Proofs.YtigdlmpjijhpaaaGreat.Ax
open Go Go.Proofs
set_option maxRecDepth 100000
theorem SIn.ones{h:List Ob}{s:Setup}{a:SA}(k:SIn h s a):AV.one a.w=true/\AV.one a.e=true/\AV.one a.c=true/\AV.one a.g=true/\AV.one a.r=true/\AV.one a.t=true:=⟨k.w.one,k.e.one,k.c.one,k.g.one,k.r.one,k.t.one⟩
structure Times (s:Setup):Prop where
 unit:1<=s.unit/\s.unit<=3600
 cap:60<=s.cap/\s.cap<=57600
 paidBreak:0<=s.paidBreak/\s.paidBreak<=86400
 autoAfter:0<=s.autoAfter/\s.autoAfter<=86400
 autoBreak:0<=s.autoBreak/\s.autoBreak<=86400
 nightFrom:0<=s.nightFrom/\s.nightFrom<=86400
 nightTo:0<=s.nightTo/\s.nightTo<=86400
 dayOver:0<=s.dayOver/\s.dayOver<=86400
 dayReg:0<=s.dayReg/\s.dayReg<=s.dayOver
 weekReg:0<=s.weekReg/\s.weekReg<=604800
theorem VZ{s:Setup}(h:z6 s=true):Times s:=by
 have h0:=jU h
 simp only[z6,wZ,zq] at h
 have a:=h.1.2.1.1.2
 exact⟨h0.1,h0.2,wx a (by simp),wx a (by simp),wx a (by simp),wx a (by simp),wx a (by simp),wx a (by simp),QC h.1.2.1.2,QC h.1.2.2⟩
def Kr(s:Setup):List Spn:=if s.nightTo<s.nightFrom then [⟨0,s.nightTo⟩,⟨s.nightFrom,86400⟩] else [⟨s.nightFrom,s.nightTo⟩]
theorem V9a{s:Setup}(t:Times s){w:Spn}(h:w∈Kr s):(0<=w.from_/\w.from_<=86400)/\0<=w.to_/\w.to_<=86400:=by
 have a:=t.nightFrom
 have b:=t.nightTo
 unfold Kr at h
 split at h
 ·rcases zx.1 h with rfl|h
  ·simp only;omega
  ·rw[zW] at h;subst h;simp only;omega
 ·rw[zW] at h;subst h;simp only;omega
theorem kBa(s:Setup):(Kr s).length<=2:=by unfold Kr;split<;>simp
theorem XVa(h:List Ob)(s:Setup)(a:SA)(k:SIn h s a):
  ACalls Tryz.prog 191 [je s a] h λr h'=>r=spv (Kr s)/\h'=h:=jX (by decide) (Jh _) <| by
 have hex:∃r h',(∃L,h'=h++L/\NoRes L/\New h 2 r ((Kr s).map qJ) L)/\ResK h h':=
  ⟨.sl 2 _,_,⟨[],rfl,jh,λ_ _=>⟨rfl,λ_=>rfl⟩⟩,resK_app⟩
 refine zi Tryz.f191 [.tmp 2] 21 rfl rfl rfl rfl rfl rfl (by decide) (hex) λB=>?_
 simp only[go_sem,k.ones]
 refine ways (λe=>?_) (λe=>?_)
 ·have b:Kr s=[⟨0,s.nightTo⟩,⟨s.nightFrom,86400⟩]:=by unfold Kr;rw[if_pos (of_decide_eq_true e)]
  rw[b]
  simp only[go_sem,k.ones]
  exact Vi (ty:=143) (x:= .tl (h.length+1) 0) (by simp only[go_sem]) ⟨_,rfl,zl rfl (zD rfl)⟩ (.inr ⟨_,_,by omega,rfl,by rw[zG (k:=1) rfl];rfl⟩)
 ·have b:Kr s=[⟨s.nightFrom,s.nightTo⟩]:=by unfold Kr;rw[if_neg (of_decide_eq_false e)]
  rw[b]
  simp only[go_sem,k.ones]
  exact Vi (ty:=143) (x:= .tl (h.length+1) 0) (by simp only[go_sem]) ⟨_,rfl,zl rfl (zD rfl)⟩ (.inr ⟨_,_,by omega,rfl,by rw[zG (k:=1) rfl];rfl⟩)
def Xd(s:Setup)(d:Int):List Spn:=((Kr s).filter λw=>decide (w.from_<w.to_)).map λw=>⟨d*86400+w.from_,d*86400+w.to_⟩
def ZO(d:Int)(o:List Spn)(w:Spn):List Spn:=if w.from_<w.to_ then o++[⟨d*86400+w.from_,d*86400+w.to_⟩] else o
theorem WF(d:Int):∀(l o:List Spn),l.foldl (ZO d) o=o++(l.filter λw=>decide (w.from_<w.to_)).map λw=>⟨d*86400+w.from_,d*86400+w.to_⟩
 | [],o=>by simp
 | w::l,o=>by
   rw[List.foldl_cons,WF d l,List.filter_cons]
   unfold ZO
   by_cases h:w.from_<w.to_<;>simp[h]
theorem Waa(F:List (Nat × Ob))(h0 h:List Ob)(b:List Spn)(i j:Nat)(s:Setup)(a:SA)(k:LIn F h0 h i 55 143 2 (b.map qJ))(ks:SIn h s a)(t:Times s)(hj:(j,Ob.box 30 (qg s a))∈F)(hl:b.length<1099511627776)(d:Int)(hd:0<=d/\d<371):
  ACalls Tryz.prog 190 [i64 d,.ptr j 0,.ptr i 0] h λr h'=>r= .tup []/\LIn F h0 h' i 55 143 2 ((b++Xd s d).map qJ):=by
 have hex:∃r h',(r=AV.tup []/\LIn F h0 h' i 55 143 2 ((b++Xd s d).map qJ))/\ResK h h':=by
  obtain⟨h',q1,q2⟩:=k.any ((b++Xd s d).map qJ)
  exact⟨_,h',⟨rfl,q1⟩,q2⟩
 have L:h[j]? =some (.box 30 (qg s a)):=k.keep hj
 refine zi Tryz.f190 [] 33 rfl rfl rfl rfl rfl rfl (by decide) (hex) λB=>?_
 simp only[go_sem,L,ks.ones]
 refine zg (XVa _ s a ks) ?_
 rintro _ h4 ⟨rfl,rfl⟩
 have D:b++Xd s d=((Kr s).take (Kr s).length).foldl (ZO d) b:=by rw[zP,WF];rfl
 rw[D]
 have O:=kBa s
 have f:= @V9a s t
 obtain⟨v,hv⟩:∃v,v=Kr s:=⟨_,rfl⟩
 rw[<-hv] at O f⊢
 obtain⟨W,U⟩:∃W,W=(v.take v.length).foldl (ZO d) b:=⟨_,rfl⟩
 rw[<-U]
 simp only[go_sem,zb]
 refine zI (by decide) (λm T h'=>∃(n:Nat) (o:List Spn),n<=v.length/\o=(v.take n).foldl (ZO d) b/\o.length<=b.length+n/\LIn F h0 h' i 55 143 2 (o.map qJ)/\T 0=i64 d/\T 2= .ptr i 0/\T 7=spv v/\T 8=i64 v.length/\T 9=i64 n/\m=v.length - n) v.length
  ⟨0,b,by omega,rfl,by omega,k,by simp only[go_sem],by simp only[go_sem],by simp only[go_sem],by(simp only[go_sem]<;>rfl),by(simp only[go_sem]<;>rfl),rfl⟩ ?_
 rintro m T h' ⟨n,o,hn,K,δ,k',t0,t2,G,t8,t9,rfl⟩
 simp only[go_sem,t8,t9]
 refine ways (λe=>?_) (λe=>?_)
 ·have l:=dlt e
  have g:=Ji l
  have H:(n:Int)<v.length:=by omega
  have X:=f (zy l)
  have c:(v.take (n+1)).foldl (ZO d) b=ZO d o v[n]:=by rw[<-zE l,qK, <-K];rfl
  obtain⟨z,Y⟩:∃z,z=v[n]:=⟨_,rfl⟩
  rw[<-Y] at g c X
  have S:IntKind.wrap .i64 (d*86400)=d*86400:=qp (n:=d*86400) (by unfold Fit;omega)
  have R:IntKind.wrap .i64 (d*86400+z.from_)=d*86400+z.from_:=qp (n:=d*86400+z.from_) (by unfold Fit;omega)
  have V:IntKind.wrap .i64 (d*86400+z.to_)=d*86400+z.to_:=qp (n:=d*86400+z.to_) (by unfold Fit;omega)
  simp only[go_sem,G,t9,g,H,zb,Int.toNat_natCast,zh]
  refine ways (λp=>?_) (λp=>?_)
  ·have p:=of_decide_eq_true p
   have u:ZO d o z=o++[⟨d*86400+z.from_,d*86400+z.to_⟩]:=by unfold ZO;rw[if_pos p]
   obtain⟨x,Q,N⟩:=k'.at_
   have w:∀M,(h'++M)[i]? =some (.box 55 [x]):=λM=>ze Q
   have C:(o.length+1)*17<=140737488355328:=by omega
   rcases N with⟨rfl,A⟩|⟨id,st,u1,rfl,E⟩
   ·simp only[go_sem,t0,t2,t9,w,S,R,V]
    refine⟨v.length - (n+1),by omega,n+1,_,by omega,c.symm,by rw[u];simp;omega,?_,G,t8,qf (by omega) rfl,rfl⟩
    rw[u,zw,A]
    exact k'.push_nil (zl rfl (zl rfl (zD rfl))) (by omega) (by rw[zG (k:=2) rfl];rfl)
   ·have P:∀M,(h'++M)[id]? =some (.row 143 2 (o.map qJ) st):=λM=>ze E
    have I:id≠i:=λq=>by rw[q,Q] at E;cases E
    have y:∀M o',((h'++M).set id o')[i]? =some (.box 55 [.tl id st]):=λM o'=>by
     rw[zc I];exact w M
    simp only[go_sem,t0,t2,t9,w,P,y,C,S,R,V,zb]
    refine⟨v.length - (n+1),by omega,n+1,_,by omega,c.symm,by rw[u];simp;omega,?_,G,t8,qf (by omega) rfl,rfl⟩
    rw[u,zw]
    exact k'.push_own (zl rfl (zD rfl)) u1 E
  ·have p:=of_decide_eq_false p
   have u:ZO d o z=o:=by unfold ZO;rw[if_neg p]
   simp only[go_sem,t9]
   exact⟨v.length - (n+1),by omega,n+1,_,by omega,c.symm,by rw[u];omega,by rw[u];exact k'.app (zD rfl),t0,t2,G,t8,qf (by omega) rfl,rfl⟩
 ·have Z:=j9 e
  have J:n=v.length:=by omega
  subst J
  rw[<-U] at K
  subst K
  simp only[go_sem]
  exact⟨_,rfl,.inl ⟨rfl,k'⟩⟩
theorem XWa{o:List Int}{d:Int}(f:o.Pairwise (· < ·))(i:∀x∈o,0<=x/\x<371)(h:0<=d/\d<371):(Jj o d).Pairwise (· < ·)/\∀x∈Jj o d,0<=x/\x<371:=by
 unfold Jj
 cases j:o.getLast? with
 | none=>
   refine⟨by simp,λx c=>?_⟩
   have c:x=d:=by simpa using c
   subst c;exact h
 | some z=>
   simp only
   split
   ·rename_i l
    obtain⟨q,rfl⟩:∃q,o=q++[z]:=by
     obtain⟨q,k⟩:=List.getLast?_eq_some_iff.1 j
     exact⟨q,k⟩
    refine⟨?_,λx c=>?_⟩
    ·rw[qT]
     refine⟨f,by simp,λa e b g=>?_⟩
     rw[zW] at g
     subst g
     rw[qT] at f
     rcases zK.1 e with e|e
     ·have:=f.2.2 a e z (by simp);omega
     ·rw[zW] at e;omega
    ·rcases zK.1 c with c|c
     ·exact i x c
     ·rw[zW] at c;subst c;exact h
   ·exact⟨f,i⟩
theorem kCa{o:List Int}{a:Int}(b:o.Pairwise (· < ·))(c:∀x∈o,0<=x/\x<371)(d:0<=a):∀k:Nat,a+k<=371->(Kp o a k).Pairwise (· < ·)/\∀x∈Kp o a k,0<=x/\x<371
 | 0,_=>⟨b,c⟩
 | k+1,h=>by
   obtain⟨f,e⟩:=kCa b c d k (by omega)
   exact XWa f e (by omega)
theorem vF(l:List Spn):(qR l).Pairwise (· < ·)/\∀x∈qR l,0<=x/\x<371:=by
 have key:∀(v:List Spn) (o:List Int),o.Pairwise (· < ·)->(∀x∈o,0<=x/\x<371)->(v.foldl kT o).Pairwise (· < ·)/\∀x∈v.foldl kT o,0<=x/\x<371:=λv=>by
  induction v with
  | nil=>exact λo b a=>⟨b,a⟩
  | cons s v c=>
    intro o b a
    rw[List.foldl_cons]
    have d:=yE s.from_
    have e:=yE (s.to_ - 1)
    have:=kCa b a d.1 (jY (s.to_ - 1) - jY s.from_+1).toNat (by omega)
    exact c _ this.1 this.2
 exact key _ [] .nil (by simp)
theorem Wba{o:List Int}(d:o.Pairwise (· < ·))(e:∀x∈o,0<=x/\x<371):o.length<=371:=by
 have c:o.Nodup:=d.imp λh=>by omega
 have:=XF (b:=(List.range 371).map λ(k:Nat)=>(k:Int)) c λx a=>by
  have:=e x a
  exact zr.2 ⟨x.toNat,by rw[qW];omega,by omega⟩
 simpa using this
theorem yX(l:List Spn):(qR l).length<=371:=Wba (vF l).1 (vF l).2
def ws(s:Setup)(l:List Int):List Spn:=l.flatMap (Xd s)
def xc(s:Setup)(l:List Spn):List Spn:=if z6 s then Vg l (ws s (qR l)) else []
theorem wwa(s:Setup)(d:Int):(Xd s d).length<=2:=by
 unfold Xd
 rw[zb]
 have a:=qw (λw:Spn=>decide (w.from_<w.to_)) (Kr s)
 have b:=kBa s
 omega
theorem Jl(s:Setup):∀l:List Int,(ws s l).length<=2*l.length
 | []=>by simp[ws]
 | d::l=>by
   have a:=Jl s l
   have b:=wwa s d
   unfold ws at a⊢
   rw[List.flatMap_cons,zf,List.length_cons];omega
theorem XH{l:List Int}{i:Nat}(h:i<l.length):(l.map qn)[i]? =some [i64 l[i]]:=by rw[zz,zj h];rfl
theorem Wca(h:List Ob)(s:Setup)(a:SA)(k:SIn h s a)(f:SFit s)(x:AV)(l:List Spn)(I:SlOf h x 2 (l.map qJ))(P:l.length<1048576):
  ACalls Tryz.prog 118 [je s a,x] h λr h'=>(r=spv (xc s l)∨r= .v (.slice none 0 0)/\xc s l=[])/\h'=h:=by
 have hex:∃r h',((r=spv (xc s l)∨r=AV.v (.slice none 0 0)/\xc s l=[])/\h'=h)/\ResK h h':=⟨_,_,⟨.inl rfl,rfl⟩,.refl⟩
 refine zi Tryz.f118 [.tmp 4] 30 rfl rfl rfl rfl rfl rfl (by decide) (hex) λB=>?_
 simp only[go_sem,k.ones]
 refine zg (c16 _ s a (k.app _) f) ?_
 rintro _ J ⟨rfl,O⟩
 rw[O]
 clear O J
 cases u:z6 s
 ·have j:xc s l=[]:=by unfold xc;rw[u];rfl
  simp only[go_sem,u,qt,Bool.not_false]
  exact⟨_,by simp only[go_sem],.inr ⟨h,_,rfl,rfl,rfl,.refl,.inr ⟨rfl,j⟩,rfl⟩⟩
 have j:xc s l=Vg l (ws s (qR l)):=by unfold xc;rw[if_pos u]
 have S:=VZ u
 simp only[go_sem,u,qt,Bool.not_true]
 refine zg (XAa _ x l (I.app _) P) ?_
 rintro _ J ⟨rfl,rfl⟩
 have q:=(vF l).2
 have G:=yX l
 have b:ws s (qR l)=ws s ((qR l).take (qR l).length):=by rw[zP]
 have o:=Jl s (qR l)
 rw[b] at j
 rw[b] at o
 obtain⟨v,W⟩:∃v,v=qR l:=⟨_,rfl⟩
 rw[<-W] at q G j o⊢
 simp only[go_sem,zb]
 obtain⟨F,K⟩:∃F,F=[(h.length,Ob.box 30 (qg s a))]:=⟨_,rfl⟩
 have w:(h.length,Ob.box 30 (qg s a))∈F:=by rw[K];simp
 refine zI (by decide) (λm T h'=>∃n:Nat,n<=v.length/\LIn F h h' (h.length+1) 55 143 2 ((ws s (v.take n)).map qJ)/\T 1=x/\T 5= .ptr (h.length+1) 0/\T 6= .fn (.func 190) [] [.ptr h.length 0,.ptr (h.length+1) 0]/\T 7= .sl 1 (v.map qn)/\T 16=i64 v.length/\T 17=i64 n/\m=v.length - n) v.length
  ⟨0,by omega,⟨⟨_,rfl,zl rfl (zD rfl)⟩,by omega,(λz y=>by rw[K,zW] at y;subst y;exact⟨by simp,⟨_,_,rfl⟩,by rw[zM rfl];rfl⟩),_,by rw[zG (k:=1) rfl];rfl,.inl ⟨rfl,rfl⟩⟩,by simp only[go_sem],by simp only[go_sem],by simp only[go_sem],by simp only[go_sem],by(simp only[go_sem]<;>rfl),by(simp only[go_sem]<;>rfl),rfl⟩ ?_
 rintro m T h' ⟨n,R,i,t1,t5,t6,N,p,d,rfl⟩
 simp only[go_sem,p,d]
 refine ways (λe=>?_) (λe=>?_)
 ·have g:=dlt e
  have c:=XH g
  have A:(n:Int)<v.length:=by omega
  have M:=q _ (zy g)
  have t:ws s (v.take (n+1))=ws s (v.take n)++Xd s v[n]:=by unfold ws;rw[<-zE g,List.flatMap_append];simp
  have E:=Jl s (v.take n)
  rw[zJ] at E
  obtain⟨z,y⟩:∃z,z=v[n]:=⟨_,rfl⟩
  rw[<-y] at c t M
  simp only[go_sem,t6,N,d,c,A,zb,Int.toNat_natCast,zh]
  refine zg (Waa F h h' _ (h.length+1) h.length s a i (i.pre.sin k) S w (by omega) z M) ?_
  rintro _ U ⟨rfl,k6⟩
  rw[<-t] at k6
  simp only[go_sem,d]
  exact⟨v.length - (n+1),by omega,n+1,by omega,k6,t1,t5,t6,N,p,qf (by omega) rfl,rfl⟩
 ·have Q:=j9 e
  have C:n=v.length:=by omega
  subst C
  obtain⟨X,H,D⟩:=i.at_
  simp only[go_sem,t1,t5,H]
  refine zg (zmb _ x X l _ (i.pre.sl I) D.rows P (by omega)) ?_
  rintro _ U ⟨rfl,rfl⟩
  rw[<-j]
  simp only[go_sem]
  obtain⟨L,V,_⟩:=i.pre
  rw[V]
  exact⟨_,by simp only[go_sem],.inr ⟨h,_,rfl,rfl,J8 _,.refl,.inl rfl,rfl⟩⟩
theorem zxb(h:List Ob)(s:Setup)(a:SA)(k:SIn h s a)(f:SFit s)(x:AV)(l:List Spn)(b:SlOf h x 2 (l.map qJ))(c:l.length<1048576):
  ACalls Tryz.prog 118 [je s a,x] h λr h'=>r=spv (xc s l)/\h'=h:=
 Ko ((Wca h s a k f x l b c).mono λr h' ⟨q,e⟩=>⟨q.imp_right λq=>⟨q.1,by rw[q.2];rfl⟩,e⟩)
