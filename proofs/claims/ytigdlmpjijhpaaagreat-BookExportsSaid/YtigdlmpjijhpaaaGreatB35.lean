import Derived.Test.YtigdlmpjijhpaaaGreatBA
import Derived.Test.YtigdlmpjijhpaaaGreatB34
import Derived.Lib.AppendZerosOnto
import Derived.Lib.Walk
import Derived.Lib.SliceRun
import Derived.Lib.Hide
import Derived.Test.YtigdlmpjijhpaaaGreatB31
set_option linter.all false
namespace Go.Proofs.YtigdlmpjijhpaaaGreat.Ax
open Go Go.RowKit
section
variable {P:Program}
theorem kda{g:Operand}{j:Array Tmp}{assign body:Code}{Q:Exit->Act->World->Prop}{a:Act}{w:World}{n c:Nat}{i:Array Value}
  (o:a.eval g= .func (.func c) #[] i) (q:∀args w,(callFunc c args).run P w= .ok (.enter c args) w)
  (h:∀(fn:FuncId) (rec:LoopState->Option Code->Loop),rec=(λst k=>{ state:=st,pending:=k,fn,tmps:=a.tmps,params:=j,assign,body,defers:=w.heap.size })->
   CallsIn Fence.wide (n - 1) P c (#[.func (.yield (w.heap.size+1)) #[] #[]]++i) ((w.alloc (.deferred (some []))).alloc (.loop (rec .ready none))) λe l=>(∃v,e= .returned v)/\
    l.heap[w.heap.size+1]? =some (.loop (rec .ready none))/\Q .normal { a with defers:={ target:= .collected w.heap.size,args:= #[] }::a.defers } (l.putObj (w.heap.size+1) (.loop (rec .exhausted none)))):
  (Code.rangeFunc g j assign body).wpIn Fence.wide n P Q a w:=by
 refine wpIn_rangeFunc ?_
 intro fn r
 obtain⟨rec,b⟩:∃rec:LoopState->Option Code->Loop,rec=λst k=>{ state:=st,pending:=k,fn,tmps:=a.tmps,params:=j,assign,body,defers:=w.heap.size }:=⟨_,rfl⟩
 obtain⟨d,f⟩:∃d,(w.alloc (.deferred (some []))).alloc (.loop (rec .ready none))=d:=⟨_,rfl⟩
 have h:=h fn rec b
 rw[f] at h
 refine⟨w.heap.size+1,[{ target:= .collected w.heap.size,args:= #[] }],d,{ target:= .fn (.func c) i,args:= #[.func (.yield (w.heap.size+1)) #[] #[]] },d,c,
  #[.func (.yield (w.heap.size+1)) #[] #[]]++i,d,?_,?_,?_,?_,λh=>(by cases h),?_⟩
 ·rw[<-f,b];exact run_enterLoop_outer _ _ _ _ _
 ·simp only[resolve,o]
  simp[go_sem]
 ·intro s _;exact trivial
 ·simp[invoke,go_sem,q]
 ·refine h.mono ?_
  rintro e t ⟨⟨v,rfl⟩,p,m⟩
  exact⟨none,_,by have:=run_endLoop (P:=P) p (by rw[b];simp);rw[b] at this ⊢;exact this,m⟩
end
def KeepB(n:Nat)(h h':List Ob):Prop:=∀(j:Nat) (ty:TypeId) (cs:List AV),n<=j->h[j]? =some (.box ty cs)->h'[j]? =some (.box ty cs)
theorem KeepB.trans{n:Nat}{a b c:List Ob}(h:KeepB n a b)(k:KeepB n b c):KeepB n a c:=λj ty cs d q=>k j ty cs d (h j ty cs d q)
theorem KeepB.raw{n i:Nat}{a:List Ob}{l o ks us o'}(hi:a[i]? =some (.raw l o ks us)):KeepB n a (a.set i (.raw l o' ks us)):=λj ty cs _ q=>by
 have:i≠j:=λe=>by rw[e,q] at hi;cases hi
 rw[zc this];exact q
theorem KeepB.mono{n m:Nat}{a b:List Ob}(h:KeepB n a b)(d:n<=m):KeepB m a b:=λj ty cs c q=>h j ty cs (by omega) q
def YLa(P:Program)(c:FuncId)(b:List AV)(Rd:List Ob->Prop)(xs:List AV):Prop:=
 ∀ (l:Nat) (K:Nat->List Ob->Prop) (a:List Ob),K 0 a->(∀i h' M,NoRes M->K i h'->K i (h'++M))->(∀i h',K i h'->Rd h')->(∃h',K xs.length h'/\ResK a h')->(∀i h',K i h'->a.length<=h'.length)->
   (∀i x h',xs[i]? =some x->K i h'->Yj P l [x] h' λh''=>K (i+1) h''/\KeepB a.length h' h'')->ACalls P c (.v (.func (.yield l) #[] #[])::b) a λ_ h'=>K xs.length h'
def RawK(h h':List Ob):Prop:=∀(j l:Nat) (o:Obj) (ks:List AV) (us:List Value),h[j]? =some (.raw l o ks us)->h'[j]? =some (.raw l o ks us)
def J5a(N:Nat)(T:Env):Env:=λi=>if i<N then T i else .bad
theorem J6a(N:Nat)(T:Env)(i:Nat):J5a N T i=if i<N then T i else .bad:=id rfl
section
variable {P:Program} {N b:Nat} {T:Env} {h:List Ob} {ds:List Deferred}
theorem Z8a{T:Env}{c:Ctx}{a:Act}(h:wF c T a):∀(n:Nat) (us:List Value),us.length=n->(∀i,i<n->us[i]? =some (a.tmps.getD i undef))->ARs c ((List.range n).map T) us:=λn us j g=>
 voa (by simp[j]) λk x b=>by
  rw[zx] at b
  cases e:(List.range n)[k]? with
  | none=>rw[e] at b;cases b
  | some i=>
    rw[e] at b
    injection b with b
    obtain⟨f,d⟩:=zd.1 e
    rw[List.getElem_range] at d
    subst d b
    rw[xi] at f
    exact⟨_,g _ f,h k⟩
theorem Z9a{T:Env}{c:Ctx}:∀ {n:Nat} {us:List Value},ARs c ((List.range n).map T) us->us.length=n/\∀i,i<n->∃u,us[i]? =some u/\AR c (T i) u:=λ{n us} k=>by
 have b:=vB k
 rw[zb,xi] at b
 refine⟨b.symm,λi hi=>?_⟩
 obtain⟨u,d,a⟩:=wg k i (by simpa using hi)
 refine⟨u,d,?_⟩
 have:nth ((List.range n).map T) i=T i:=J6 (by rw[zx,List.getElem?_range hi];rfl)
 rw[this] at a
 exact a
theorem J7a{b:FuncId}(k1:XQ P b=true):∀args w,(callFunc b args).run P w= .ok (.enter b args) w:=λargs w=>by
 have a:∃fn,P.funcs[b]? =some fn/\fn.name≠ "runtime.NumGoroutine" /\fn.body.isSome=true:=by
  unfold XQ at k1
  split at k1
  ·rename_i fn a
   simp only[zl,bne_iff_ne,ne_eq] at k1
   exact⟨fn,a,k1.1,k1.2⟩
  ·cases k1
 obtain⟨fn,e,g,f⟩:=a
 have f5:(fn.name== "runtime.NumGoroutine")=false:=by simpa using g
 have c:fn.body.isNone=false:=by cases d:fn.body<;>simp[d] at f⊢
 simp only[callFunc,Sem.run_bind,run_program,e,c,f5,Bool.false_eq_true,if_false,Result.andThen_ok,Sem.run_pure]
theorem Qaa{n m l:Nat}{f:FuncId}{tmps:Array Value}{assign body:Code}{w:World}{R:Ending->World->Prop}(k:RoundIn Fence.wide n P l f tmps assign body w R):RoundIn Fence.wide m P l f tmps assign body w R:=
 ⟨k.1,λc cs _=>k.2 c cs (room_wide _)⟩
theorem Y6{p:Nat}{g:Operand}{assign body:Code}{gf:FuncId}{lb:List AV}{xs:List AV}(hp:p<N)(ω:XQ P gf=true)(hg:ev T g= .fn (.func gf) [] lb){Rd:List Ob->Prop}(hseq:YLa P gf lb Rd xs)
  (K:Nat->List Ob->Prop) (Q:Nat->AV->Env->List Ob->Prop)
  (hK0:∀M,NoRes M->K 0 (h++M)) (happ:∀i h' M,NoRes M->K i h'->K i (h'++M)) (hrd:∀i h',K i h'->Rd h') (ψ:∀M,NoRes M->∃h',K xs.length h'/\ResK (h++M) h'/\RawK (h++M) h')
  (V:∀i h' j l o ks us o',h.length<=j->K i h'->h'[j]? =some (.raw l o ks us)->K i (h'.set j (.raw l o' ks us)))
  (γ:∀i x H c j l o ks us o',h.length<=j->Q i x H c->c[j]? =some (.raw l o ks us)->Q i x H (c.set j (.raw l o' ks us)))
  (hass:∀b l i x h',xs[i]? =some x->K i h'->RWp P N b l assign (λe H c=>e= .normal/\Q i x H c/\RawK h' c/\KeepB h.length h' c) (upd (J5a N T) p x) h')
  (ι:∀b l i x H c,xs[i]? =some x->Q i x H c->RWp P N b l body (λe _ h3=>e= .normal/\K (i+1) h3/\RawK c h3/\KeepB h.length c h3) H c):
  Xw P N b ds (.rangeFunc g #[p] assign body) (λe ds' T' h'=>e= .normal/\T'=T/\∃D id:Nat,ds'=⟨.collected D, #[]⟩::ds/\h.length<=id/\h'[id]? =some (.raw D (.deferred (some [])) [] [])/\K xs.length h') T h:=λφ hu w g0 a r=>by
 have hgv:=jL r.t g
 rw[hg] at hgv
 obtain⟨us0,β,e1,e2,e3⟩:=hgv
 have e2:us0.toList=[]:=e2
 have e2:us0= #[]:=by simpa using e2
 subst e2
 refine(wpIn_wide (n:=1)).1 (kda e1 (J7a ω) ?_)
 intro fn rec E
 obtain⟨D,hD⟩:∃D,D=w.heap.size:=⟨_,rfl⟩
 obtain⟨l,hl⟩:∃l,l=D+1:=⟨_,rfl⟩
 obtain⟨ks,ο⟩:∃ks,ks=(List.range N).map T:=⟨_,rfl⟩
 obtain⟨us,χ⟩:∃us,us=a.tmps.toList:=⟨_,rfl⟩
 have ξ:ARs (ctx w g0 (fill φ h)) ks us:=by
  rw[ο,χ]
  refine Z8a r.t N _ (by rw[qH];exact r.n) λi hi=>?_
  rw[qr,zt]
  rw[zW (by rw[r.n];exact hi)]
  rfl
 have k1:=Ya (g:=g0) r.ok r.hB (.deferred (some [])) (ks:=[]) (us:=[]) rfl
 have k2:=Ya k1.ok k1.size (.loop (rec .ready none)) (ARs.le k1.le _ _ ξ)
 have k12:=k1.trans k2
 rw[<-hD] at k12
 have hs1:(w.alloc (.deferred (some []))).heap.size=l:=by rw[World.size_alloc,hl,hD]
 rw[hs1] at k12
 obtain⟨J,y⟩:∃J,J=h++[.raw D (.deferred (some [])) [] [],.raw l (.loop (rec .ready none)) ks us]:=⟨_,rfl⟩
 have hfl:fill φ J=fill φ h++[.raw D (.deferred (some [])) [] []]++[.raw l (.loop (rec .ready none)) ks us]:=by rw[y,jC hu];simp
 rw[<-hfl] at k12
 obtain⟨W1,hW1⟩:∃W1,W1=(w.alloc (.deferred (some []))).alloc (.loop (rec .ready none)):=⟨_,rfl⟩
 rw[<-hW1] at k12⊢
 have hp1:Pre h J:=⟨_,y,zr rfl (zG rfl)⟩
 have θ:J.length=h.length+2:=by rw[y];simp
 have z:∀st L,(Loop.params (rec st L))= #[p]/\(rec st L).tmps=a.tmps/\(rec st L).assign=assign/\(rec st L).body=body/\(rec st L).state=st/\(rec st L).pending=L/\(rec st L).fn=fn:=λst L=>by rw[E];exact⟨rfl,rfl,rfl,rfl,rfl,rfl,rfl⟩
 obtain⟨KK,s⟩:∃KK:Nat->List Ob->Prop,KK=λi h'=>K i h'/\h'[h.length]? =some (.raw D (.deferred (some [])) [] [])/\h'[h.length+1]? =some (.raw l (.loop (rec .ready none)) ks us):=⟨_,rfl⟩
 have hy:∀i x h',xs[i]? =some x->KK i h'->Yj P l [x] h' λh''=>KK (i+1) h''/\KeepB J.length h' h'':=by
  intro i x h' hx ρ I hu' B' w' g' vs hh hB hvs
  rw[s] at ρ
  obtain⟨q1,U,q3⟩:=ρ
  obtain⟨v,r0,rfl,hv,δ⟩:=hvs
  have δ:r0=[]:=δ
  subst δ
  obtain⟨hb1,hb2,hb3⟩:=hh.ok _ _ (qy (φ:=I) q3 rfl)
  have ν:=run_yield (P:=P) (w:=w') (args:= #[v]) hb2 (by rw[(z _ _).1];rfl)
  rw[(z _ _).1,(z _ _).2.1,(z _ _).2.2.1,(z _ _).2.2.2.1,(z _ _).2.2.2.2.2.2] at ν
  refine⟨_,_,_,_,ν,λm=>Qaa (n:=0) (roundIn_of_wpIn trivial ?_)⟩
  have htm:((#[p].zip #[v]).foldl (λtmps (t,a)=>tmps.setIfInBounds t a) a.tmps:Array Value)=a.tmps.setIfInBounds p v:=by simp
  have hT2:wF (ctx w' g' (fill I h')) (J5a N T) a:=λi=>by
   unfold J5a
   split
   ·rename_i hi
    rw[ο] at hb3
    obtain⟨u,z1,z2⟩:=(Z9a hb3).2 i hi
    rw[χ,qr] at z1
    rw[zt,z1]
    exact z2
   ·trivial
  have F:Rel N ⟨B',[]⟩ w' g' (fill I h') ⟨a.tmps.setIfInBounds p v,[]⟩ (upd (J5a N T) p x):=
   ⟨hh,hB,yha (a:=a) hT2 hv (by rw[r.n];exact hp),rfl,by simp[r.n]⟩
  refine Code.wpIn_mono ?_ (hass B' l i x h' hx q1 I hu' w' g' _ (by first|(rw[htm];exact F)|simpa using F))
  rintro e a1 w1 ⟨H,c,⟨rfl,hmid,hrk,hkb⟩,g2,qk1,Z,G⟩
  have A:=hrk _ _ _ _ _ q3
  have ε:=G.ok.ok _ _ (qy (φ:=I) A rfl)
  have η:{ rec .ready none with state:= .busy }=rec .busy none:=by rw[E]
  refine⟨_,run_beginRound ε.2.1 (z _ _).2.2.2.2.1,?_⟩
  rw[η]
  have kt:=Qb G.ok G.size (qy (φ:=I) A rfl) (.loop (rec .busy none))
  rw[<-jc rfl] at kt
  have S:h.length+1<c.length:=(zd.1 A).1
  have Y:Rel N ⟨B',[]⟩ (w1.putObj l (.loop (rec .busy none))) g2 (fill I (c.set (h.length+1) (.raw l (.loop (rec .busy none)) ks us))) a1 H:=⟨kt.ok,kt.size,λi=>AR.le kt.le _ _ (Z.t i),Z.d,Z.n⟩
  refine Code.wpIn_mono ?_ (ι B' l i x H _ hx (γ _ _ _ _ _ _ _ _ _ _ (by omega) hmid A) I (hu'.mono (by rw[zz];exact yB G)) _ g2 a1 Y)
  rintro e a2 w3 ⟨T3,h3,⟨rfl,hk3,X,hkb3⟩,g3,qk2,qr2,O⟩
  have q3s:(c.set (h.length+1) (.raw l (.loop (rec .busy none)) ks us))[h.length+1]? =some (.raw l (.loop (rec .busy none)) ks us):=zo S
  have B:=X _ _ _ _ _ q3s
  have α:=O.ok.ok _ _ (qy (φ:=I) B rfl)
  have W:=run_endRound (P:=P) none α.2.1
  have hrdy:{ rec .busy none with state:=if(none:Option Code).isNone then .ready else .done,pending:=none }=rec .ready none:=by rw[E];rfl
  rw[hrdy] at W
  refine⟨_,_,W,?_⟩
  have kt3:=Qb O.ok O.size (qy (φ:=I) B rfl) (.loop (rec .ready none))
  rw[<-jc rfl] at kt3
  have hd1:=hrk _ _ _ _ _ U
  have hd2:(c.set (h.length+1) (.raw l (.loop (rec .busy none)) ks us))[h.length]? =some (.raw D (.deferred (some [])) [] []):=by
   rw[zc (by omega)];exact hd1
  have hd3:=X _ _ _ _ _ hd2
  have hlt3:h.length+1<h3.length:=(zd.1 B).1
  refine⟨h3.set (h.length+1) (.raw l (.loop (rec .ready none)) ks us),g3,rfl,⟨?_,((((hkb.trans (.raw A)).trans hkb3).trans (.raw B)).mono (by rw[θ];omega))⟩,?_,(G.trans kt).trans (O.trans kt3)⟩
  ·rw[s]
   exact⟨V _ _ _ _ _ _ _ _ (by omega) hk3 B,by rw[zc (by omega)];exact hd3,zo hlt3⟩
  ·exact((qk1.trans (qj A rfl)).trans qk2).trans (qj B rfl)
 have hc:=hseq l KK J
  (by rw[s];exact⟨by rw[y];exact hK0 _ (zr rfl (zG rfl)),by rw[y,zM rfl];rfl,by rw[y,zK (k:=1) rfl];rfl⟩)
  (λi h' M hM q=>by
   rw[s] at q⊢
   obtain⟨q1,U,q3⟩:=q
   exact⟨happ i h' M hM q1,zf U,zf q3⟩) (λi h' q=>by rw[s] at q;exact hrd i h' q.1)
  (by
   obtain⟨h',z1,z2,z3⟩:=ψ [.raw D (.deferred (some [])) [] [],.raw l (.loop (rec .ready none)) ks us] (zr rfl (zG rfl))
   rw[s]
   exact⟨h',⟨z1,z3 _ _ _ _ _ (by rw[zM rfl];rfl),z3 _ _ _ _ _ (by rw[zK (k:=1) rfl];rfl)⟩,by rw[y];exact z2⟩)
  (λi h' q=>by
   rw[s] at q
   have:=(zd.1 q.2.2).1
   omega) hy
 have ζ:ARs (ctx W1 g0 (fill φ J)) (.v (.func (.yield l) #[] #[])::lb) (Value.func (.yield l) #[] #[]::β.toList):=⟨_,_,rfl,rfl,ARs.le k12.le _ _ e3⟩
 have C:=hc.2.2 φ (hu.mono hp1.len) b W1 g0 _ k12.ok k12.size ζ
 refine callsIn_wide.2 ?_
 have σ:(Value.func (.yield l) #[] #[]::β.toList).toArray= #[.func (.yield (w.heap.size+1)) #[] #[]]++β:=by
  rw[hl,hD];simp
 rw[σ] at C
 refine C.mono λe W2 ⟨v,_,c,g2,q1,U,q5,q6,_⟩=>⟨⟨v,q1⟩,?_⟩
 rw[s] at U
 obtain⟨U,q3,B⟩:=U
 have τ:=q6.ok.ok _ _ (qy (φ:=φ) B rfl)
 have R:=Qb q6.ok q6.size (qy (φ:=φ) B rfl) (.loop (rec .exhausted none))
 rw[<-jc rfl] at R
 rw[<-hD, <-hl]
 have S:h.length+1<c.length:=(zd.1 B).1
 have f:=(k12.trans q6).trans R
 refine⟨τ.2.1,_,T,c.set (h.length+1) (.raw l (.loop (rec .exhausted none)) ks us),⟨rfl,rfl,D,h.length,rfl,zn _,by rw[zc (by omega)];exact q3,V _ _ _ _ _ _ _ _ (by omega) U B⟩,g2,?_,?_,f⟩
 ·have:ResK h J:=by rw[y];exact qS
  exact(this.trans q5).trans (qj B rfl)
 ·exact⟨f.ok,f.size,λi=>AR.le f.le _ _ (r.t i),by simp[r.d],r.n⟩
theorem WU:∀ {ar:List AV} {i:Nat},ar.length<=i->nth ar i= .bad
 | [],_,_=>rfl
 | x::ar,0,h=>absurd h (Nat.not_succ_le_zero _)
 | x::ar,i+1,h=>WU (ar:=ar) (Nat.le_of_succ_le_succ h)
theorem WV{B:Nat}{w:World}{g:Gh}{a:Act}{fn:Func}{r:AV}(m:HOk B w g h)(hB:B<=w.heap.size)(s:wF (ctx w g h) T a)(b:Z5 P T h fn.results.toList=some r):∃v,(results fn a.tmps).run P w= .ok v w/\AR (ctx w g h) r v:=by
 unfold Z5 at b
 cases e:yR P T h fn.results.toList with
 | none=>rw[e] at b;cases b
 | some xs=>
   rw[e] at b
   injection b with b
   obtain⟨us,l,i⟩:=QD m hB s _ xs e
   have o:(fn.results.mapM (Zka a.tmps)).run P w= .ok us.toArray w:=by
    rw[Array.mapM_eq_mapM_toList]
    simp[l]
   have c:(results fn a.tmps).run P w= .ok (if h:us.toArray.size=1 then us.toArray[0] else .tuple us.toArray) w:=by
    rw[Yk,Sem.run_bind,o]
    rfl
   refine⟨_,c,?_⟩
   have n:=vB i
   unfold KFa at b
   split at b
   ·rename_i x
    subst b
    obtain⟨u,q,k,p,j⟩:=i
    have j:q=[]:=j
    subst j k
    simpa using p
   ·rename_i f
    subst b
    rw[dif_neg]
    ·exact⟨us.toArray,rfl,by simpa using i⟩
    ·intro d
     have d:us.length=1:=by simpa using d
     rw[<-n] at d
     match xs,d with
     | [x],_=>exact f x rfl
def qQb(P:Program)(rs:List ResultVar)(h:List Ob)(R:AV->Prop):Qn:=λe ds T h'=>
 (e= .ret∨e= .normal)/\(ds=[]∨∃D id:Nat,ds=[⟨.collected D, #[]⟩]/\h.length<=id/\h'[id]? =some (.raw D (.deferred (some [])) [] []))/\Pre h h'/\(∃r,(∀a,Z5 P T a rs=some r)/\r.lt h.length=true/\R r)
theorem Wl{f:FuncId}(fn:Func){c:Code}{ar:List AV}{R:AV->Prop}(rs:List ResultVar)(N:Nat)(hf:P.funcs[f]? =some fn)(hb:fn.body=some c)(hN:fn.ntmps=N)(G:fn.results.toList=rs)(T:ar.length.ble N=true)(H:XQ P f=true)(hex:∃r,R r)
  (k:∀b,Xw P N b [] c (qQb P rs h R) (nth ar) h):ACalls P f ar h λr h'=>R r/\h'=h:=by
 subst hN G
 have T:=qC T
 refine⟨H,(let ⟨r,q⟩:=hex;⟨r,h,⟨q,rfl⟩,.refl⟩),λφ W B w g vs U hB j=>?_⟩
 have S:=vB j
 refine(callsIn_wide (n:=0)).1 (callsIn_of_wp_marks (F:=Fence.wide) hf hb trivial (wpIn_wide.2 ?_))
 have y:Rel fn.ntmps ⟨B,[]⟩ w g (fill φ h) { tmps:=vs.toArray++Array.replicate (fn.ntmps - vs.toArray.size) undef,defers:=[] } (nth ar):=by
  refine⟨U,hB,λi=>?_,rfl,by simp;omega⟩
  by_cases hi:i<ar.length
  ·obtain⟨u,e1,e2⟩:=wg j i hi
   have:(vs.toArray++Array.replicate (fn.ntmps - vs.toArray.size) undef).getD i undef=u:=by
    rw[zt,Array.getElem?_append_left (by simp;omega)]
    simp[e1]
   simp only[this]
   exact e2
  ·rw[WU (by omega)]
   trivial
 refine wp_mono (k B φ W w g _ y) λe E w' ⟨ds,Y,h',⟨Z,I,z,⟨r,M,Q,K⟩⟩,g',ek,O,A⟩=>?_
 obtain⟨L,rfl,hL⟩:=z
 have fin:∀(m:World) (C:List Ob),Good B w g (fill φ h) m g' (fill φ C)->wF (ctx m g' (fill φ C)) Y E->(∃L2,C=h++L2)->∃v,(results fn E.tmps).run P m= .ok v m/\∃v' V h'' g'',Ending.returned v= .returned v'/\(R V/\h''=h)/\ResK h h''/\Good B w g (fill φ h) m g'' (fill φ h'')/\AR (ctx m g'' (fill φ h'')) V v':=by
  rintro m C l J ⟨L2,rfl⟩
  obtain⟨v,s,o⟩:=WV (fn:=fn) l.ok l.size J (M _)
  rw[jC W] at l o
  refine⟨v,s,v,r,h,g',rfl,⟨K,rfl⟩,.refl,l.drop rfl (by have:=U.ids;exact this),AR.less (xD m g' (fill φ h) L2) _ _ (by rw[q9];exact Q) o⟩
 have main:LeavesInM Fence.wide 0 P fn E.tmps (λe w'=>∃v r h' g',e= .returned v/\(R r/\h'=h)/\ResK h h'/\Good B w g (fill φ h) w' g' (fill φ h')/\AR (ctx w' g' (fill φ h')) r v) E.defers .returning w':=by
  rw[O.d]
  rcases I with rfl|⟨D,id,rfl,p,X⟩
  ·obtain⟨v,s,o⟩:=fin w' _ A O.t ⟨L,rfl⟩
   exact⟨v,s,o⟩
  ·have x:=A.ok.ok _ _ (qy (φ:=φ) X rfl)
   have a:=Qb A.ok A.size (qy (φ:=φ) X rfl) (.deferred none)
   rw[<-jc rfl] at a
   obtain⟨v,s,o⟩:=fin _ _ (A.trans a) (λi=>AR.le a.le _ _ (O.t i)) ⟨L.set (id - h.length) _,by rw[zL _ _ p]⟩
   exact⟨by simp,.inl ⟨D,_,rfl,run_takeDeferred x.2.1,v,s,o⟩⟩
 rcases Z with rfl|rfl
 ·exact main
 ·exact main
end
theorem KeepB.app{n:Nat}{a M:List Ob}:KeepB n a (a++M):=λj ty cs _ q=>zf q
theorem KeepB.setL{n i:Nat}{a:List Ob}{o:Ob}(hi:i<n):KeepB n a (a.set i o):=λj ty cs b q=>by
 rw[zc (by omega)];exact q
theorem KeepB.setR{n i:Nat}{a:List Ob}{o:Ob}{ty e rows st}(hi:a[i]? =some (.row ty e rows st)):KeepB n a (a.set i o):=λj ty cs b q=>by
 have:i≠j:=λe=>by rw[e,q] at hi;cases hi
 rw[zc this];exact q
theorem RawK.trans{a b c:List Ob}(h:RawK a b)(k:RawK b c):RawK a c:=λj l o ks us q=>k j l o ks us (h j l o ks us q)
theorem RawK.app{a M:List Ob}:RawK a (a++M):=λj l o ks us q=>zf q
theorem RawK.setB{i:Nat}{a:List Ob}{o:Ob}{ty cs}(hi:a[i]? =some (.box ty cs)):RawK a (a.set i o):=λj l _ ks us q=>by
 have:i≠j:=λe=>by rw[e,q] at hi;cases hi
 rw[zc this];exact q
theorem RawK.setR{i:Nat}{a:List Ob}{o:Ob}{ty e rows st}(hi:a[i]? =some (.row ty e rows st)):RawK a (a.set i o):=λj l _ ks us q=>by
 have:i≠j:=λe=>by rw[e,q] at hi;cases hi
 rw[zc this];exact q
section
variable {F:List (Nat × Ob)} {h0 h:List Ob} {i bty ty e:Nat} {rows rows':List (List AV)}
theorem LIn.raw(k:LIn F h0 h i bty ty e rows){j l o ks us o'}(g:h0.length<=j)(a:h[j]? =some (.raw l o ks us)):LIn F h0 (h.set j (.raw l o' ks us)) i bty ty e rows:=by
 obtain⟨k1,k2,k3,x,k4,k5⟩:=k
 have c:∀(z:Nat) t cs,h[z]? =some (.box t cs)->(h.set j (.raw l o' ks us))[z]? =some (.box t cs):=λz t cs q=>by
  have:j≠z:=λe=>by rw[e,q] at a;cases a
  rw[zc this];exact q
 refine⟨k1.set g rfl,k2,λz b=>⟨(k3 z b).1,(k3 z b).2.1,?_⟩,x,c _ _ _ k4,?_⟩
 ·obtain⟨r,⟨t,cs,m⟩,d⟩:=k3 z b
  rw[m] at d⊢
  exact c _ _ _ d
 ·rcases k5 with⟨rfl,p⟩|⟨id,st,n,rfl,f⟩
  ·exact .inl ⟨rfl,p⟩
  ·refine .inr ⟨id,st,n,rfl,?_⟩
   have:j≠id:=λe=>by rw[e,f] at a;cases a
   rw[zc this];exact f
theorem LIn.box(k:LIn F h0 h i bty ty e rows):∃x,h[i]? =some (.box bty [x]):=⟨_,k.at_.choose_spec.1⟩
theorem LIn.raws(k:LIn F h0 h i bty ty e rows){M:List Ob}{o:Ob}:RawK h ((h++M).set i o):=by
 obtain⟨x,a⟩:=k.box
 exact RawK.app.trans (.setB (zf a))
theorem LIn.raws_own(k:LIn F h0 h i bty ty e rows){M:List Ob}{o o':Ob}{id:Nat}{d ee:Nat}{a:List (List AV)}{st:Nat}(b:h[id]? =some (.row d ee a st)):RawK h (((h++M).set id o').set i o):=by
 obtain⟨x,f⟩:=k.box
 have c:id≠i:=λq=>by rw[q,f] at b;cases b
 exact(RawK.app.trans (.setR (zf b))).trans (.setB (by rw[zc c];exact zf f))
theorem LIn.anyR(k:LIn F h0 h i bty ty e rows)(rows':List (List AV)):∃h',LIn F h0 h' i bty ty e rows'/\ResK h h'/\RawK h h':=by
 have q:=k.push_nil (M:=[.row ty e rows' 0]) (zG rfl) (id:=h.length) (zn _) (by rw[zM rfl];rfl)
 exact⟨_,q,k.pre.resK q.pre,k.raws⟩
end
section
variable {P:Program} {N b:Nat} {T:Env} {h:List Ob} {ds:List Deferred}
def J8a(P:Program)(N b:Nat)(ds:List Deferred)[x:Held (Code × Qn)](T:Env)(h:List Ob):Prop:=Xw P N b ds x.it.1 x.it.2 T h
theorem yva{c:Code}{X:Qn}(k:Xw P N b ds c X T h): @J8a P N b ds ⟨(c,X)⟩ T h:=k
theorem qQa{c:Code}{X Y:Qn}(k:Xw P N b ds c X T h)(f:∀e ds T h,X e ds T h->Y e ds T h):Xw P N b ds c Y T h:=λφ j w g a r=>
 wp_mono (k φ j w g a r) λe m w' ⟨d,i,h',l,q⟩=>⟨d,i,h',f _ _ _ _ l,q⟩
end
section
variable {P:Program} {N b:Nat} {T:Env} {h:List Ob} {ds:List Deferred}
def wia(P:Program)(N b:Nat)(ds:List Deferred)[x:Held (Code × Qn)]:jF
 | .normal,T,h=> @J8a P N b ds x T h
 | e,T,h=>x.it.2 e ds T h
theorem J9a(x:Held (Code × Qn)): @wia P N b ds x .normal T h= @J8a P N b ds x T h:=id rfl
theorem Xaa(c:Code)(X:Qn): @wia P N b ds ⟨(c,X)⟩ .ret T h=X .ret ds T h:=id rfl
attribute [go_sem] J9a Xaa
theorem kB{c c':Code}{X:Qn}(a:okC N c=true)(k:wpC P N ⟨b,ds⟩ c (@wia P N b ds ⟨(c',X)⟩) T h):Xw P N b ds (.seq c c') X T h:=
 Y5 (yua (qn _ a k) λe T h q=>by cases e<;>exact q)
theorem qRa{c:Code}{X:Qn}(a:okC N c=true)(k:wpC P N ⟨b,ds⟩ c (λe T h=>X e ds T h) T h):Xw P N b ds c X T h:=
 yua (qn _ a k) λe T h q=>q
theorem Xba{rs:List ResultVar}{h0 h':List Ob}{T:Env}{R:AV->Prop}{ds:List Deferred}(a:ds=[]∨∃D id:Nat,ds=[⟨.collected D, #[]⟩]/\h0.length<=id/\h'[id]? =some (.raw D (.deferred (some [])) [] []))(e:Pre h0 h'){r:AV}(b:∀c,Z5 P T c rs=some r)(f:r.lt h0.length=true)(d:R r):qQb P rs h0 R .ret ds T h':=
 ⟨.inl rfl,a,e,⟨r,b,f,d⟩⟩
end
end Go.Proofs.YtigdlmpjijhpaaaGreat.Ax
namespace Go.Proofs.YtigdlmpjijhpaaaGreat.Ax
open Go Go.Proofs
set_option maxRecDepth 100000
theorem jPa{v:List Spn}{i:Nat}{k:Int}(h:i<v.length):ji k (v.drop i)=(if(v[i]).from_>k then [⟨k,(v[i]).from_⟩] else [])++ji (v[i]).to_ (v.drop (i+1)):=by
 rw[qI h,ji]
theorem qSa{α:Type}{L r:List α}{n:Nat}{x:α}(h:L.drop n=x::r):L[n]? =some x/\L.drop (n+1)=r:=by
 have a:(L.drop n)[0]? =some x:=by rw[h];rfl
 rw[List.getElem?_drop] at a
 refine⟨a,?_⟩
 rw[<-List.drop_drop,h];rfl
theorem kea{α:Type}{L:List α}{n:Nat}(h:L.drop n=[])(a:n<=L.length):n=L.length:=by
 have:(L.drop n).length=0:=by rw[h];rfl
 rw[List.length_drop] at this
 omega
def Y7(s:Spn):AV:= .ag (qE s)
theorem Qba(j:Nat)(v:List Spn)(P:v.length<1048576):YLa Tryz.prog 246 [.ptr j 0] (λh=>h[j]? =some (.box 55 [spv v])) ((ji 0 v).map Y7):=by
 intro l K I u f G p o J
 have hex:∃(r:AV) (h':List Ob),K ((ji 0 v).map Y7).length h'/\ResK I h':=by
  obtain⟨h',q⟩:=p
  exact⟨.tup [],h',q⟩
 have O:=G 0 I u
 refine zj Tryz.f246 [] 34 rfl rfl rfl rfl rfl rfl (by decide) (hex) λB=>?_
 simp only[go_sem,O,zb]
 refine zP (by decide) (λm T h'=>∃(i n:Nat) (k:Int),i<=v.length/\n<=(ji 0 v).length/\(ji 0 v).drop n=ji k (v.drop i)/\K n h'/\T 0= .v (.func (.yield l) #[] #[])/\T 3=i64 k/\T 6=spv v/\T 7=i64 v.length/\T 8=i64 i/\m=v.length - i) v.length
  ⟨0,0,0,by omega,by omega,rfl,u,by simp only[go_sem],by simp only[go_sem],by simp only[go_sem],by(simp only[go_sem]<;>rfl),by(simp only[go_sem]<;>rfl),rfl⟩ ?_
 rintro m T h' ⟨i,n,k,hi,L,a,g,t0,t3,t6,D,t8,rfl⟩
 simp only[go_sem,D,t8]
 refine ways (λe=>?_) (λe=>?_)
 ·have t:=dlt e
  have d:=QV t
  have w:(i:Int)<v.length:=by omega
  rw[jPa t] at a
  obtain⟨z,M⟩:∃z,z=v[i]:=⟨_,rfl⟩
  rw[<-M] at d a
  simp only[go_sem,t3,t6,t8,d,w,zb,Int.toNat_natCast,zh]
  cases q:decide (z.from_>k)
  ·rw[if_neg (of_decide_eq_false q),List.nil_append] at a
   simp only[go_sem,q,t3,t8,qD]
   exact⟨v.length - (i+1),by omega,i+1,n,_,by omega,L,a,f _ _ _ (zG rfl) g,t0,rfl,t6,D,qm (by omega) rfl,rfl⟩
  ·rw[if_pos (of_decide_eq_true q)] at a
   obtain⟨s,C⟩:=qSa a
   have A:n<(ji 0 v).length:=(zd.1 s).1
   simp only[go_sem,q,t0,t3,t8,qD]
   refine Jv (J n (Y7 ⟨k,z.from_⟩) _ (by rw[zx,s];rfl) (f _ _ _ (zG rfl) g)) ?_
   rintro H ⟨c,E⟩
   have y:H[h'.length]? =some (.box 143 (qE z)):=E _ _ _ (o _ _ g) (by rw[zM rfl];rfl)
   simp only[go_sem,q,t0,t3,t8,qD,y]
   exact⟨v.length - (i+1),by omega,i+1,n+1,_,by omega,by omega,C,c,rfl,t6,D,qm (by omega) rfl,rfl⟩
 ·have N:=xb e
  have x:i=v.length:=by omega
  subst x
  rw[List.drop_length,ji] at a
  simp only[go_sem,t3]
  refine ways (λF=>?_) (λF=>?_)
  ·rw[if_pos (of_decide_eq_true F)] at a
   obtain⟨s,C⟩:=qSa a
   have A:n<(ji 0 v).length:=(zd.1 s).1
   simp only[go_sem,t0,t3]
   refine Jv (J n (Y7 ⟨k,32054400⟩) _ (by rw[zx,s];rfl) g) ?_
   rintro H ⟨c,_⟩
   have b:n+1=((ji 0 v).map Y7).length:=by
    rw[zb];exact kea C (by omega)
   rw[b,zb] at c
   simp only[go_sem]
   exact⟨_,rfl,.inl c⟩
  ·rw[if_neg (of_decide_eq_false F)] at a
   have b:n=((ji 0 v).map Y7).length:=by
    rw[zb];exact kea a L
   rw[b,zb] at g
   simp only[go_sem]
   exact⟨_,rfl,.inl g⟩
theorem Vla(h:List Ob)(v:List Spn):ACalls Tryz.prog 193 [spv v] h λr h'=>r= .fn (.func 246) [] [.ptr h.length 0]/\h'=h++[.box 55 [spv v]]:=by
 refine zj Tryz.f193 [.tmp 2] 4 rfl rfl rfl rfl rfl rfl (by decide) (⟨_,_,⟨rfl,rfl⟩,qS⟩) λB=>?_
 simp only[go_sem]
 exact⟨_,rfl,.inl ⟨rfl,rfl⟩⟩
theorem Ka(h:List Ob)(x y:AV)(a b:List Spn)(f:SlOf h x 2 (a.map qE))(Y:SlOf h y 2 (b.map qE))(ha:a.length<1048576)(hb:b.length<524288):
  ACalls Tryz.prog 119 [x,y] h λr h'=>r=spv (jz a b)/\h'=h:=by
 refine Wl Tryz.f119 [.tmp 4] 18 rfl rfl rfl rfl rfl rfl (⟨_,rfl⟩) λbs=>?_
 refine kB (by decide) ?_
 simp only[go_sem]
 refine kB (by decide) ?_
 simp only[go_sem]
 refine Y5 ?_
 refine kB (by decide) ?_
 simp only[go_sem]
 refine zg (JL _ y b (Y.app _) (by omega)) ?_
 rintro _ h3 ⟨rfl,rfl⟩
 simp only[go_sem]
 refine zg (Vla _ (qw b)) ?_
 rintro _ h4 ⟨rfl,rfl⟩
 simp only[go_sem]
 have H:(qw b).length<1048576:=by have:=qh b;omega
 obtain⟨v,R⟩:∃v,v=qw b:=⟨_,rfl⟩
 rw[<-R] at H⊢
 have W:=X5 v 0
 have δ:v.length<524288:=by have:=qh b;rw[R];omega
 have base:LIn [(h.length+1,.box 55 [spv v])] h (h++[.box 55 [.v (.slice none 0 0)],.box 55 [spv v]]) h.length 55 143 2 []:=⟨⟨_,rfl,zr rfl (zG rfl)⟩,zn _,(λz P=>by
  cases P with
  | head=>exact⟨by show h.length+1≠h.length;omega,⟨_,_,rfl⟩,by rw[zK (k:=1) rfl];rfl⟩
  | tail _ P=>cases P),_,by rw[zM rfl];rfl,.inl ⟨rfl,rfl⟩⟩
 have w:jz a b=VF a (ji 0 v):=by rw[R];rfl
 refine yva (Wk (qQa (Y6 (p:=10) (by decide) rfl (by simp only[go_sem]) (Qba (h.length+1) v H)
  (λn h'=>LIn [(h.length+1,.box 55 [spv v])] h h' h.length 55 143 2 (((ji 0 v).take n).map qE))
  (λn x C d=>C 5= .ptr h.length 0/\∃s j,(ji 0 v)[n]? =some s/\C 6= .ptr j 0/\d[j]? =some (.box 143 (qE s))/\LIn [(h.length+1,.box 55 [spv v])] h d h.length 55 143 2 (((ji 0 v).take n).map qE))
  ?_ (λn h' M J k=>k.app J) (λn h' k=>k.keep (.head _)) ?_ ?_ ?_ ?_ ?_) ?_))
 ·exact λM J=>base.app J
 ·intro M J
  exact(base.app J).anyR _
 ·intro n h' j l o ks us o' S k E
  exact k.raw (Nat.le_trans (by rw[ze];exact Nat.le_add_right _ _) S) E
 ·rintro n x C d j l o ks us o' S ⟨t5,s,m,U,O,K,k⟩ E
  refine⟨t5,s,m,U,O,?_,k.raw (Nat.le_trans (by rw[ze];exact Nat.le_add_right _ _) S) E⟩
  have:j≠m:=λe=>by rw[e,K] at E;cases E
  rw[zc this];exact K
 ·intro X l n x h' f k
  rw[zx] at f
  cases N:(ji 0 v)[n]? with
  | none=>rw[N] at f;cases f
  | some s=>
    rw[N] at f
    injection f with f
    subst f
    refine QW (by decide) (by decide) ?_
    simp only[go_sem,J6a,Y7]
    exact⟨⟨s,h'.length,rfl,rfl,by rw[zM rfl];rfl,k.app (zG rfl)⟩,.app,.app⟩
 ·rintro X l n x C d f ⟨t5,s,m,U,O,K,k⟩
  obtain⟨V,c,t⟩:=k.at_
  refine qPa (QW (by decide) (by decide) ?_)
  have B:(((ji 0 v).take n).length+1)*17<=140737488355328:=by rw[qa];omega
  have u:((ji 0 v).take n).map qE++[qE s]=((ji 0 v).take (n+1)).map qE:=by
   obtain⟨Z,N⟩:=zd.1 U
   rw[<-zI Z,zy,N];rfl
  have hi:=k.lt
  rcases t with⟨rfl,I⟩|⟨id,st,u1,rfl,A⟩
  ·rw[I,List.nil_append] at u
   have g:∀M,(d++M)[h.length]? =some (.box 55 [.v (.slice none 0 0)]):=λM=>zf c
   simp only[go_sem,t5,O,K,c,g]
   have q:=k.push_nil (M:=[.row 143 2 [qE s] 0,.row 143 2 [qE s] 0]) (zr rfl (zG rfl)) (id:=d.length+1) (by omega) (by rw[zK (k:=1) rfl];rfl)
   refine⟨by rw[<-u];exact q,k.raws,KeepB.app.trans (.setL (by omega))⟩
  ·have hg:∀M,(d++M)[id]? =some (.row 143 2 (((ji 0 v).take n).map qE) st):=λM=>zf A
   have g:∀M,(d++M)[h.length]? =some (.box 55 [.tl id st]):=λM=>zf c
   have T:id≠h.length:=λq=>by rw[q,c] at A;cases A
   have G:∀M o',((d++M).set id o')[h.length]? =some (.box 55 [.tl id st]):=λM o'=>by
    rw[zc T];exact g M
   simp only[go_sem,t5,O,K,c,g,hg,G,zb,B]
   have q:=k.push_own (M:=[.row 143 2 [qE s] 0]) (zG rfl) u1 A (rows':=((ji 0 v).take (n+1)).map qE)
   refine⟨by rw[<-u] at q ⊢;exact q,k.raws_own A,(KeepB.app.trans (.setR (zf A))).trans (.setL (by omega))⟩
 ·rintro e ds C d ⟨rfl,rfl,D,id,rfl,hid,F,k⟩
  rw[ze] at hid
  rw[zb,zZ] at k
  obtain⟨V,c,t⟩:=k.at_
  have i:=k.pre
  refine⟨rfl,(kB (by decide) ?_:Xw _ _ _ _ _ _ _ _)⟩
  simp only[go_sem,c]
  have Q:SlOf d x 2 (a.map qE):=by
   obtain⟨L,rfl,_⟩:=i
   exact f.app _
  refine zg (YHa _ x V a (ji 0 v) Q t.rows ha (by omega)) ?_
  rintro _ h6 ⟨rfl,rfl⟩
  simp only[go_sem]
  refine yva (qRa (by decide) ?_)
  simp only[go_sem]
  exact Xba (.inr ⟨D,id,rfl,by omega,F⟩) i (r:=spv (VF a (ji 0 v))) (λ_=>rfl) (QU _) (by rw[w])
theorem qRb(h:List Ob)(x:AV)(l:List Spn)(n:Int)(c:SlOf h x 2 (l.map qE))(v:l.length<524288)(u:Fit n):
  ACalls Tryz.prog 284 [x,i64 n] h λr h'=>r=spv (X7 l n)/\h'=h:=by
 refine X8 ?_
 refine zj Tryz.f284 [.tmp 4] 16 rfl rfl rfl rfl rfl rfl (by decide) (⟨_,_,⟨.inl rfl,rfl⟩,.refl⟩) λB=>?_
 simp only[go_sem]
 refine ways (λe=>?_) (λe=>?_)
 ·simp only[go_sem]
  exact⟨_,rfl,.inl ⟨.inr ⟨rfl,by unfold X7;rw[if_pos (of_decide_eq_true e)];rfl⟩,rfl⟩⟩
 ·have a:¬ n<=0:=of_decide_eq_false e
  simp only[go_sem]
  refine zg (ysa _ x l c (by omega)) ?_
  rintro _ q ⟨rfl,rfl⟩
  have i:=YU (l:=qw l) (λs k=>vk s k)
  have g:=qh l
  obtain⟨m,d⟩:∃m:Int,m=if 32054400<n then 32054400 else n:=⟨_,rfl⟩
  have b:m=min n 32054400:=by rw[d];split<;>omega
  have j:0<m/\m<=32054400:=by omega
  have o:IntKind.wrap .i64 (jK (qw l) - m)=jK (qw l) - m:=qp (n:=jK (qw l) - m) (by unfold Fit;omega)
  simp only[go_sem, <-d,o]
  refine zg (jOa _ x l _ c (by omega) (by unfold Fit;omega)) ?_
  rintro _ p ⟨rfl,rfl⟩
  simp only[go_sem]
  have f:(qJ l (jK (qw l) - m)).length<=(qw l).length:=xK _ _
  refine zg (Ka _ x _ l (qJ l (jK (qw l) - m)) c (jW _) (by omega) (by omega)) ?_
  rintro _ t ⟨rfl,rfl⟩
  simp only[go_sem]
  exact⟨_,rfl,.inl ⟨.inl (by unfold X7;rw[if_neg a, <-b];rfl),rfl⟩⟩
open Go.RowKit
attribute [go_sem] WWa WXa Yja qtb j2b WHa zSb zTb WIa zUb zVb zWb zXb zYb zZb WJa WKa WLa WMa WNa WOa z0b z1b z2b z3b z4b z5b z6b z7b z8b z9b qab qbb Q3a Q4a WPa qcb qdb qeb jNb qfb qgb WQa qhb qib KGa Q5a qjb qkb qlb WRa WSa KHa qmb KIa qnb Q6a Q2a WTa Zla KJa qob ty3 zNb qpb qqb KKa WUa qrb jOb WVa jPb qsb Yia ty4 jQb zOb jRb ty5 zPb zQb jSb jTb jUb jVb jWb KLa jXb jYb jZb j0b ty9 zRb j1b
theorem qTa(z:Array Value)(k:Nat):(Builtin.zeroCells z k).size=k*z.size:=by
 simp[Builtin.zeroCells]
theorem Vma:∃i z,Tryz.prog.info? 143=some i/\i.zero=some z/\i.size=2/\i.bytes=16/\z.cells.size=2:=by
 have h:(Tryz.prog.info? 143).map (λi=>(i.zero,i.size,i.bytes))=some (some (.agg #[.int .i64 0,.int .i64 0]),2,16):=by kernel_rfl
 cases hi:Tryz.prog.info? 143 with
 | none=>rw[hi] at h;cases h
 | some i=>
   rw[hi] at h
   injection h with h
   injection h with h1 h2
   injection h2 with h2 h3
   exact⟨i,_,rfl,h1,h2,h3,rfl⟩
set_option maxHeartbeats 1000000 in
theorem Xca(n:Nat)(w:World)(t:n<=1000000000000):Calls Tryz.prog 245 #[.slice none 0 0,.int .i64 (n:Int)] w λe w'=>∃v,e= .returned v/\Below w.heap.size w w'/\w'.ownsRow w.heap.size 143 2 v 0 []/\∀b,v.ownBlock=some b->w.heap.size<=b:=by
 by_cases h0:n=0
 ·subst h0
  go_enter Tryz.func245,Tryz.ntmps245
  go_wp2
  go_ret
  exact⟨_,rfl,Below.refl _ _,World.ownsRow_nil _ _ _ _,λb c=>by cases c⟩
 ·obtain⟨i,z,hi,o,s,c,j⟩:=Vma
  have d:∀ty,(Builtin.append_ #[55,3] ty #[.slice none 0 0,.int .i64 (n:Int)]).run Tryz.prog w=
    .ok (.slice (some ⟨w.heap.size,0,none⟩) n (grownCap w n 0 143)) (w.drew.alloc (.cells (#[]++Builtin.zeroCells z.cells n++Builtin.zeroCells z.cells (grownCap w n 0 143 - n)) 143)):=λty=>by
   have h:=Lib.run_append_grow_zeros w 55 3 ty 143 i z .i64 .i64 Tryz.underlying55 Tryz.underlying3 hi o none 0 0 [] (run_firstCells_none w.drew i.size 0 0 0) n (by omega) (by omega) (by omega) (by omega)
    (by rw[c];omega) (by rw[Nat.zero_add];exact growslice_fits (by omega) (by rw[c];omega))
   rw[Nat.zero_add] at h
   exact h
  have k:n<=grownCap w n 0 143:=grownCap_ge w _ _ _
  have a:=grownCap_le_maxLen w n 0 143 (by unfold maxLen;omega)
  obtain⟨G,l⟩:∃G,G=grownCap w n 0 143:=⟨_,rfl⟩
  rw[<-l] at d k a
  obtain⟨cs,f⟩:∃cs,cs=(#[]++Builtin.zeroCells z.cells n++Builtin.zeroCells z.cells (G - n):Array Value):=⟨_,rfl⟩
  rw[<-f] at d
  have g:cs.size=G*2:=by rw[f];simp only[Array.size_append,qTa,j];simp;omega
  have p:G<=9223372036854775807:=by unfold maxLen at a;omega
  have m:(0:Int)<(n:Int):=by omega
  have r:=Lib.hid (show(w.drew.alloc (.cells cs 143)).ownsRow w.heap.size 143 2 (.slice (some ⟨w.heap.size,0,none⟩) 0 G) 0 [] from
   ⟨rfl,.inr ⟨w.heap.size,G,cs,rfl,zn _,heap_alloc_new w.drew _,Nat.zero_le _,a,g,by simp⟩⟩)
  have q:=Lib.hid (show Below w.heap.size w (w.drew.alloc (.cells cs 143)) from(show Below w.heap.size w w.drew from⟨rfl,rfl,rfl,zn _,λ_ _=>rfl⟩).alloc (zn _) _)
  clear l f s c o hi g a j
  go_enter Tryz.func245,Tryz.ntmps245
  go_wp2_with (at_builtin;refine Lib.wpList_append_run _ rfl _ _ _ _ rfl _ _ rfl rfl _ _ (d _) ?_)
  go_ret
  exact⟨_,rfl,q.out,r.out,λb c=>by injection c with c;subst c;exact zn _⟩
theorem qSb(h:List Ob)(n:Nat)(l:n<=1000000000000):ACalls Tryz.prog 245 [.v (.slice none 0 0),i64 n] h λr h'=>r= .tl h.length 0/\h'=h++[.row 143 2 [] 0]:=by
 refine⟨rfl,⟨_,_,⟨rfl,rfl⟩,qS⟩,λφ z B w g vs t hB a=>?_⟩
 obtain⟨p,A,rfl,f,k,y,rfl,c,d⟩:=a
 have f:p= .slice none 0 0:=f
 have c:k= .int .i64 (n:Int):=c
 have d:y=[]:=d
 subst f c d
 refine(Xca n w l).mono λe w' ⟨v,q,u,i,j⟩=>?_
 obtain⟨k1,k2⟩:=Jq t hB (ty:=143) (e:=2) (by decide) (xs:=[]) (λx s=>by cases s) 0 u ⟨i.1,i.2.imp id λ⟨g,cap,cur,m,o,r⟩=>⟨g,cap,cur,m,Nat.le_trans hB o,r⟩⟩ rfl j
 rw[q9] at k1 k2
 have b:fill φ (h++[.row 143 2 [] 0])=fill φ h++[.row 143 2 [] 0]:=jC z
 rw[<-b] at k1 k2
 exact⟨v,_,_,_,q,⟨rfl,rfl⟩,qS,k1,k2⟩
theorem jQa(l:List Spn):((l.map qE).all λr=>r.length==2 && r.all AV.one)=true:=by
 rw[zR]
 intro r a
 obtain⟨s,_,rfl⟩:=zw.1 a
 rfl
def Zi(xs:List (AV × List Spn)):List Spn:=xs.flatMap (·.2)
theorem qUa{xs:List (AV × List Spn)}{k:Nat}(h:k<xs.length):Zi (xs.take (k+1))=Zi (xs.take k)++xs[k].2:=by
 unfold Zi
 rw[<-zI h,List.flatMap_append];simp
theorem ywa(xs:List (AV × List Spn))(k:Nat):(Zi (xs.take k)).length<=(Zi xs).length:=by
 conv=>rhs;rw[<-qL k xs]
 simp only[Zi,List.flatMap_append,ze]
 omega
theorem Xda(h:List Ob)(p:AV)(xs:List (AV × List Spn))(C:SlOf h p 1 (xs.map λq=>[q.1]))(G:∀q∈xs,SlOf h q.1 2 (q.2.map qE))(K:xs.length<1048576)(J:(Zi xs).length<1073741824):
  ACalls Tryz.prog 188 [p] h λr h'=>∃L,h'=h++L/\NoRes L/\New h 2 r ((Zi xs).map qE) L:=by
 have hex:∃r h',(∃L,h'=h++L/\NoRes L/\New h 2 r ((Zi xs).map qE) L)/\ResK h h':=
  ⟨.sl 2 _,_,⟨[],rfl,jf,λ_ _=>⟨rfl,λ_=>rfl⟩⟩,qS⟩
 have A:=C.rows
 refine zj Tryz.f188 [.tmp 2] 36 rfl rfl rfl rfl rfl rfl (by decide) (hex) λB=>?_
 simp only[go_sem,A,zb]
 refine zP (by decide) (λm T h'=>∃i:Nat,i<=xs.length/\h'=h/\T 0=p/\T 3=i64 (Zi (xs.take i)).length/\T 9=p/\T 10=i64 xs.length/\T 11=i64 i/\m=xs.length - i) xs.length
  ⟨0,by omega,rfl,by simp only[go_sem],by(simp only[go_sem]<;>rfl),by simp only[go_sem],by(simp only[go_sem]<;>rfl),by(simp only[go_sem]<;>rfl),rfl⟩ ?_
 rintro m T h' ⟨i,hi,rfl,t0,t3,t9,t10,d,rfl⟩
 simp only[go_sem,t10,d]
 refine ways (λe=>?_) (λe=>?_)
 ·have b:=dlt e
  have c:(xs.map λq=>[q.1])[i]? =some [xs[i].1]:=by rw[zx,zi b];rfl
  have f:(i:Int)<xs.length:=by omega
  have o:=G _ (zD b)
  have a:=qUa b
  have u:=ywa xs (i+1)
  obtain⟨q,l⟩:∃q,q=xs[i]:=⟨_,rfl⟩
  rw[<-l] at c o a
  have j:=o.rows
  have s:=C.at (i:=i) (by rw[zb];exact b)
  have k:=o.cells
  rw[a,ze] at u
  have I:IntKind.wrap .i64 (((Zi (xs.take i)).length:Int)+(q.2.length:Int))=((Zi (xs.take (i+1))).length:Int):=by
   rw[a,ze]
   exact(qp (n:=((Zi (xs.take i)).length:Int)+(q.2.length:Int)) (by unfold Fit;omega)).trans (by omega)
  simp only[go_sem,t3,t9,d,s,c,A,f,k,j,I,zb,Int.toNat_natCast,zh]
  have H:decide (((Zi (xs.take (i+1))).length:Int)<0)=false:=by rw[decide_eq_false_iff_not];omega
  simp only[go_sem,H,d]
  exact⟨xs.length - (i+1),by omega,i+1,by omega,t0,rfl,t9,t10,qm (by omega) rfl,rfl⟩
 ·have F:=xb e
  have g:i=xs.length:=by omega
  subst g
  rw[zZ] at t3
  simp only[go_sem,t3]
  refine zg (qSb _ (Zi xs).length (by omega)) ?_
  rintro _ E ⟨rfl,rfl⟩
  have w:=(C.app [.row 143 2 [] 0]).rows
  simp only[go_sem,t0,w,zb]
  refine zP (by decide) (λm T E=>∃(i st:Nat),i<=xs.length/\E=h'++[.row 143 2 ((Zi (xs.take i)).map qE) st]/\T 6= .tl h'.length st/\T 25=p/\T 26=i64 xs.length/\T 27=i64 i/\m=xs.length - i) xs.length
   ⟨0,0,by omega,rfl,by simp only[go_sem],by simp only[go_sem],by(simp only[go_sem]<;>rfl),by(simp only[go_sem]<;>rfl),rfl⟩ ?_
  clear t0 t9 t10 t3 d
  rintro m T E ⟨i,st,hi,rfl,t6,t25,D,y,rfl⟩
  simp only[go_sem,D,y]
  refine ways (λe=>?_) (λe=>?_)
  ·have b:=dlt e
   have c:(xs.map λq=>[q.1])[i]? =some [xs[i].1]:=by rw[zx,zi b];rfl
   have f:(i:Int)<xs.length:=by omega
   have o:=G _ (zD b)
   have a:=qUa b
   have u:=ywa xs (i+1)
   obtain⟨q,l⟩:∃q,q=xs[i]:=⟨_,rfl⟩
   rw[<-l] at c o a
   have z:=(C.app [.row 143 2 ((Zi (xs.take i)).map qE) st]).rows
   have j:=(o.app [.row 143 2 ((Zi (xs.take i)).map qE) st]).rows
   have k:=o.cells
   have s:=(C.app [.row 143 2 ((Zi (xs.take i)).map qE) st]).at (i:=i) (by rw[zb];exact b)
   have x:=jQa q.2
   rw[a,ze] at u
   have v:((Zi (xs.take i)).length+q.2.length)*17<=140737488355328:=by omega
   have t:(h'++[.row 143 2 ((Zi (xs.take i)).map qE) st])[h'.length]? =some (.row 143 2 ((Zi (xs.take i)).map qE) st):=by rw[zM rfl];rfl
   simp only[go_sem,t6,t25,y,s,x,c,z,f,k,j,v,t,zb,Int.toNat_natCast,zh]
   exact⟨xs.length - (i+1),by omega,i+1,st+1,by omega,by rw[a,zy],rfl,D,qm (by omega) rfl,rfl⟩
  ·have F:=xb e
   have g:i=xs.length:=by omega
   subst g
   simp only[go_sem,t6]
   exact⟨_,rfl,.inl ⟨_,rfl,zG rfl,OwnS.new (h0:=h') (ty:=143) (.inr ⟨h'.length,st,zn _,rfl,by rw[zZ,zM rfl];rfl⟩) (zn _)⟩⟩
end Go.Proofs.YtigdlmpjijhpaaaGreat.Ax
namespace Go.Proofs.YtigdlmpjijhpaaaGreat.Ax
open Go Go.Proofs
set_option maxRecDepth 100000
theorem SIn.ones{h:List Ob}{s:Setup}{a:SA}(k:SIn h s a):AV.one a.w=true/\AV.one a.e=true/\AV.one a.c=true/\AV.one a.g=true/\AV.one a.r=true/\AV.one a.t=true:=⟨k.w.one,k.e.one,k.c.one,k.g.one,k.r.one,k.t.one⟩
structure Times (s:Setup):Prop where
 unit:1<=s.unit/\s.unit<=3600
 cap:60<=s.cap/\s.cap<=57600
 paidBreak:0<=s.paidBreak/\s.paidBreak<=86400
 autoAfter:0<=s.autoAfter/\s.autoAfter<=86400
 autoBreak:0<=s.autoBreak/\s.autoBreak<=86400
 nightFrom:0<=s.nightFrom/\s.nightFrom<=86400
 nightTo:0<=s.nightTo/\s.nightTo<=86400
 dayOver:0<=s.dayOver/\s.dayOver<=86400
 dayReg:0<=s.dayReg/\s.dayReg<=s.dayOver
 weekReg:0<=s.weekReg/\s.weekReg<=604800
theorem VJ{s:Setup}(h:qv s=true):Times s:=by
 have h0:=Z0 h
 simp only[qv,wL,zl] at h
 have a:=h.1.2.1.1.2
 exact⟨h0.1,h0.2,wl a (by simp),wl a (by simp),wl a (by simp),wl a (by simp),wl a (by simp),wl a (by simp),Qj h.1.2.1.2,Qj h.1.2.2⟩
def Kb(s:Setup):List Spn:=if s.nightTo<s.nightFrom then [⟨0,s.nightTo⟩,⟨s.nightFrom,86400⟩] else [⟨s.nightFrom,s.nightTo⟩]
theorem Vsa{s:Setup}(t:Times s){w:Spn}(h:w∈Kb s):(0<=w.from_/\w.from_<=86400)/\0<=w.to_/\w.to_<=86400:=by
 have b:=t.nightFrom
 have a:=t.nightTo
 unfold Kb at h
 split at h
 ·rcases zE.1 h with rfl|h
  ·simp only;omega
  ·rw[zN] at h;subst h;simp only;omega
 ·rw[zN] at h;subst h;simp only;omega
theorem kpa(s:Setup):(Kb s).length<=2:=by unfold Kb;split<;>simp
theorem Xna(h:List Ob)(s:Setup)(a:SA)(k:SIn h s a):
  ACalls Tryz.prog 191 [je s a] h λr h'=>r=spv (Kb s)/\h'=h:=jT (by decide) (QU _) <| by
 have hex:∃r h',(∃L,h'=h++L/\NoRes L/\New h 2 r ((Kb s).map qE) L)/\ResK h h':=
  ⟨.sl 2 _,_,⟨[],rfl,jf,λ_ _=>⟨rfl,λ_=>rfl⟩⟩,qS⟩
 refine zj Tryz.f191 [.tmp 2] 21 rfl rfl rfl rfl rfl rfl (by decide) (hex) λB=>?_
 simp only[go_sem,k.ones]
 refine ways (λe=>?_) (λe=>?_)
 ·have b:Kb s=[⟨0,s.nightTo⟩,⟨s.nightFrom,86400⟩]:=by unfold Kb;rw[if_pos (of_decide_eq_true e)]
  rw[b]
  simp only[go_sem,k.ones]
  exact KU (ty:=143) (x:= .tl (h.length+1) 0) (by simp only[go_sem]) ⟨_,rfl,zr rfl (zG rfl)⟩ (.inr ⟨_,_,by omega,rfl,by rw[zK (k:=1) rfl];rfl⟩)
 ·have b:Kb s=[⟨s.nightFrom,s.nightTo⟩]:=by unfold Kb;rw[if_neg (of_decide_eq_false e)]
  rw[b]
  simp only[go_sem,k.ones]
  exact KU (ty:=143) (x:= .tl (h.length+1) 0) (by simp only[go_sem]) ⟨_,rfl,zr rfl (zG rfl)⟩ (.inr ⟨_,_,by omega,rfl,by rw[zK (k:=1) rfl];rfl⟩)
def JQ(s:Setup)(d:Int):List Spn:=((Kb s).filter λw=>decide (w.from_<w.to_)).map λw=>⟨d*86400+w.from_,d*86400+w.to_⟩
def ZJ(d:Int)(o:List Spn)(w:Spn):List Spn:=if w.from_<w.to_ then o++[⟨d*86400+w.from_,d*86400+w.to_⟩] else o
theorem Wq(d:Int):∀(l o:List Spn),l.foldl (ZJ d) o=o++(l.filter λw=>decide (w.from_<w.to_)).map λw=>⟨d*86400+w.from_,d*86400+w.to_⟩
 | [],o=>by simp
 | w::l,o=>by
   rw[List.foldl_cons,Wq d l,List.filter_cons]
   unfold ZJ
   by_cases h:w.from_<w.to_<;>simp[h]
theorem Vta(F:List (Nat × Ob))(h0 h:List Ob)(b:List Spn)(i j:Nat)(s:Setup)(a:SA)(k:LIn F h0 h i 55 143 2 (b.map qE))(ks:SIn h s a)(t:Times s)(hj:(j,Ob.box 30 (qd s a))∈F)(hl:b.length<1099511627776)(d:Int)(hd:0<=d/\d<371):
  ACalls Tryz.prog 190 [i64 d,.ptr j 0,.ptr i 0] h λr h'=>r= .tup []/\LIn F h0 h' i 55 143 2 ((b++JQ s d).map qE):=by
 have hex:∃r h',(r=AV.tup []/\LIn F h0 h' i 55 143 2 ((b++JQ s d).map qE))/\ResK h h':=by
  obtain⟨h',q1,q2⟩:=k.any ((b++JQ s d).map qE)
  exact⟨_,h',⟨rfl,q1⟩,q2⟩
 have P:h[j]? =some (.box 30 (qd s a)):=k.keep hj
 refine zj Tryz.f190 [] 33 rfl rfl rfl rfl rfl rfl (by decide) (hex) λB=>?_
 simp only[go_sem,P,ks.ones]
 refine zg (Xna _ s a ks) ?_
 rintro _ h4 ⟨rfl,rfl⟩
 have A:b++JQ s d=((Kb s).take (Kb s).length).foldl (ZJ d) b:=by rw[zZ,Wq];rfl
 rw[A]
 have O:=kpa s
 have g:= @Vsa s t
 obtain⟨v,Z⟩:∃v,v=Kb s:=⟨_,rfl⟩
 rw[<-Z] at O g⊢
 obtain⟨W,S⟩:∃W,W=(v.take v.length).foldl (ZJ d) b:=⟨_,rfl⟩
 rw[<-S]
 simp only[go_sem,zb]
 refine zP (by decide) (λm T h'=>∃(n:Nat) (o:List Spn),n<=v.length/\o=(v.take n).foldl (ZJ d) b/\o.length<=b.length+n/\LIn F h0 h' i 55 143 2 (o.map qE)/\T 0=i64 d/\T 2= .ptr i 0/\T 7=spv v/\T 8=i64 v.length/\T 9=i64 n/\m=v.length - n) v.length
  ⟨0,b,by omega,rfl,by omega,k,by simp only[go_sem],by simp only[go_sem],by simp only[go_sem],by(simp only[go_sem]<;>rfl),by(simp only[go_sem]<;>rfl),rfl⟩ ?_
 rintro m T h' ⟨n,o,hn,L,Y,k',t0,t2,E,t8,t9,rfl⟩
 simp only[go_sem,t8,t9]
 refine ways (λe=>?_) (λe=>?_)
 ·have p:=dlt e
  have f:=QV p
  have H:(n:Int)<v.length:=by omega
  have hb:=g (zD p)
  have c:(v.take (n+1)).foldl (ZJ d) b=ZJ d o v[n]:=by rw[<-zI p,qY, <-L];rfl
  obtain⟨z,X⟩:∃z,z=v[n]:=⟨_,rfl⟩
  rw[<-X] at f c hb
  have V:IntKind.wrap .i64 (d*86400)=d*86400:=qp (n:=d*86400) (by unfold Fit;omega)
  have Q:IntKind.wrap .i64 (d*86400+z.from_)=d*86400+z.from_:=qp (n:=d*86400+z.from_) (by unfold Fit;omega)
  have R:IntKind.wrap .i64 (d*86400+z.to_)=d*86400+z.to_:=qp (n:=d*86400+z.to_) (by unfold Fit;omega)
  simp only[go_sem,E,t9,f,H,zb,Int.toNat_natCast,zh]
  refine ways (λw=>?_) (λw=>?_)
  ·have w:=of_decide_eq_true w
   have u:ZJ d o z=o++[⟨d*86400+z.from_,d*86400+z.to_⟩]:=by unfold ZJ;rw[if_pos w]
   obtain⟨x,U,J⟩:=k'.at_
   have l:∀M,(h'++M)[i]? =some (.box 55 [x]):=λM=>zf U
   have y:(o.length+1)*17<=140737488355328:=by omega
   rcases J with⟨rfl,D⟩|⟨id,st,u1,rfl,G⟩
   ·simp only[go_sem,t0,t2,t9,l,V,Q,R]
    refine⟨v.length - (n+1),by omega,n+1,_,by omega,c.symm,by rw[u];simp;omega,?_,E,t8,qm (by omega) rfl,rfl⟩
    rw[u,zy,D]
    exact k'.push_nil (zr rfl (zr rfl (zG rfl))) (by omega) (by rw[zK (k:=2) rfl];rfl)
   ·have K:∀M,(h'++M)[id]? =some (.row 143 2 (o.map qE) st):=λM=>zf G
    have N:id≠i:=λq=>by rw[q,U] at G;cases G
    have C:∀M o',((h'++M).set id o')[i]? =some (.box 55 [.tl id st]):=λM o'=>by
     rw[zc N];exact l M
    simp only[go_sem,t0,t2,t9,l,K,C,y,V,Q,R,zb]
    refine⟨v.length - (n+1),by omega,n+1,_,by omega,c.symm,by rw[u];simp;omega,?_,E,t8,qm (by omega) rfl,rfl⟩
    rw[u,zy]
    exact k'.push_own (zr rfl (zG rfl)) u1 G
  ·have w:=of_decide_eq_false w
   have u:ZJ d o z=o:=by unfold ZJ;rw[if_neg w]
   simp only[go_sem,t9]
   exact⟨v.length - (n+1),by omega,n+1,_,by omega,c.symm,by rw[u];omega,by rw[u];exact k'.app (zG rfl),t0,t2,E,t8,qm (by omega) rfl,rfl⟩
 ·have γ:=xb e
  have I:n=v.length:=by omega
  subst I
  rw[<-S] at L
  subst L
  simp only[go_sem]
  exact⟨_,rfl,.inl ⟨rfl,k'⟩⟩
theorem Xoa{o:List Int}{d:Int}(f:o.Pairwise (· < ·))(g:∀x∈o,0<=x/\x<371)(i:0<=d/\d<371):(X9 o d).Pairwise (· < ·)/\∀x∈X9 o d,0<=x/\x<371:=by
 unfold X9
 cases k:o.getLast? with
 | none=>
   refine⟨by simp,λx c=>?_⟩
   have c:x=d:=by simpa using c
   subst c;exact i
 | some z=>
   simp only
   split
   ·rename_i l
    obtain⟨q,rfl⟩:∃q,o=q++[z]:=by
     obtain⟨q,j⟩:=List.getLast?_eq_some_iff.1 k
     exact⟨q,j⟩
    refine⟨?_,λx c=>?_⟩
    ·rw[qV]
     refine⟨f,by simp,λa e b h=>?_⟩
     rw[zN] at h
     subst h
     rw[qV] at f
     rcases zJ.1 e with e|e
     ·have:=f.2.2 a e z (by simp);omega
     ·rw[zN] at e;omega
    ·rcases zJ.1 c with c|c
     ·exact g x c
     ·rw[zN] at c;subst c;exact i
   ·exact⟨f,g⟩
theorem kqa{o:List Int}{a:Int}(c:o.Pairwise (· < ·))(b:∀x∈o,0<=x/\x<371)(f:0<=a):∀k:Nat,a+k<=371->(z9a o a k).Pairwise (· < ·)/\∀x∈z9a o a k,0<=x/\x<371
 | 0,_=>⟨c,b⟩
 | k+1,h=>by
   obtain⟨e,d⟩:=kqa c b f k (by omega)
   exact Xoa e d (by omega)
theorem vt(l:List Spn):(qR l).Pairwise (· < ·)/\∀x∈qR l,0<=x/\x<371:=by
 have key:∀(v:List Spn) (o:List Int),o.Pairwise (· < ·)->(∀x∈o,0<=x/\x<371)->(v.foldl vV o).Pairwise (· < ·)/\∀x∈v.foldl vV o,0<=x/\x<371:=λv=>by
  induction v with
  | nil=>exact λo b a=>⟨b,a⟩
  | cons s v c=>
    intro o b a
    rw[List.foldl_cons]
    have d:=yk s.from_
    have e:=yk (s.to_ - 1)
    have:=kqa b a d.1 (wy (s.to_ - 1) - wy s.from_+1).toNat (by omega)
    exact c _ this.1 this.2
 exact key _ [] .nil (by simp)
theorem Vua{o:List Int}(d:o.Pairwise (· < ·))(c:∀x∈o,0<=x/\x<371):o.length<=371:=by
 have e:o.Nodup:=d.imp λh=>by omega
 have:=Xi (b:=(List.range 371).map λ(k:Nat)=>(k:Int)) e λx a=>by
  have:=c x a
  exact zw.2 ⟨x.toNat,by rw[qT];omega,by omega⟩
 simpa using this
theorem yM(l:List Spn):(qR l).length<=371:=Vua (vt l).1 (vt l).2
def vW(s:Setup)(l:List Int):List Spn:=l.flatMap (JQ s)
def jX(s:Setup)(l:List Spn):List Spn:=if qv s then VF l (vW s (qR l)) else []
theorem wma(s:Setup)(d:Int):(JQ s d).length<=2:=by
 unfold JQ
 rw[zb]
 have b:=qo (λw:Spn=>decide (w.from_<w.to_)) (Kb s)
 have a:=kpa s
 omega
theorem QY(s:Setup):∀l:List Int,(vW s l).length<=2*l.length
 | []=>by simp[vW]
 | d::l=>by
   have a:=QY s l
   have b:=wma s d
   unfold vW at a⊢
   rw[List.flatMap_cons,ze,List.length_cons];omega
theorem Xk{l:List Int}{i:Nat}(h:i<l.length):(l.map qB)[i]? =some [i64 l[i]]:=by rw[zx,zi h];rfl
theorem Vva(h:List Ob)(s:Setup)(a:SA)(k:SIn h s a)(f:SFit s)(x:AV)(l:List Spn)(M:SlOf h x 2 (l.map qE))(P:l.length<1048576):
  ACalls Tryz.prog 118 [je s a,x] h λr h'=>(r=spv (jX s l)∨r= .v (.slice none 0 0)/\jX s l=[])/\h'=h:=by
 have hex:∃r h',((r=spv (jX s l)∨r=AV.v (.slice none 0 0)/\jX s l=[])/\h'=h)/\ResK h h':=⟨_,_,⟨.inl rfl,rfl⟩,.refl⟩
 refine zj Tryz.f118 [.tmp 4] 30 rfl rfl rfl rfl rfl rfl (by decide) (hex) λB=>?_
 simp only[go_sem,k.ones]
 refine zg (c16 _ s a (k.app _) f) ?_
 rintro _ I ⟨rfl,N⟩
 rw[N]
 clear N I
 cases q:qv s
 ·have j:jX s l=[]:=by unfold jX;rw[q];rfl
  simp only[go_sem,q,qD,Bool.not_false]
  exact⟨_,by simp only[go_sem],.inr ⟨h,_,rfl,rfl,rfl,.refl,.inr ⟨rfl,j⟩,rfl⟩⟩
 have j:jX s l=VF l (vW s (qR l)):=by unfold jX;rw[if_pos q]
 have Q:=VJ q
 simp only[go_sem,q,qD,Bool.not_true]
 refine zg (J3a _ x l (M.app _) P) ?_
 rintro _ I ⟨rfl,rfl⟩
 have i:=(vt l).2
 have H:=yM l
 have c:vW s (qR l)=vW s ((qR l).take (qR l).length):=by rw[zZ]
 have w:=QY s (qR l)
 rw[c] at j
 rw[c] at w
 obtain⟨v,V⟩:∃v,v=qR l:=⟨_,rfl⟩
 rw[<-V] at i H j w⊢
 simp only[go_sem,zb]
 obtain⟨F,K⟩:∃F,F=[(h.length,Ob.box 30 (qd s a))]:=⟨_,rfl⟩
 have p:(h.length,Ob.box 30 (qd s a))∈F:=by rw[K];simp
 refine zP (by decide) (λm T h'=>∃n:Nat,n<=v.length/\LIn F h h' (h.length+1) 55 143 2 ((vW s (v.take n)).map qE)/\T 1=x/\T 5= .ptr (h.length+1) 0/\T 6= .fn (.func 190) [] [.ptr h.length 0,.ptr (h.length+1) 0]/\T 7= .sl 1 (v.map qB)/\T 16=i64 v.length/\T 17=i64 n/\m=v.length - n) v.length
  ⟨0,by omega,⟨⟨_,rfl,zr rfl (zG rfl)⟩,by omega,(λz y=>by rw[K,zN] at y;subst y;exact⟨by simp,⟨_,_,rfl⟩,by rw[zM rfl];rfl⟩),_,by rw[zK (k:=1) rfl];rfl,.inl ⟨rfl,rfl⟩⟩,by simp only[go_sem],by simp only[go_sem],by simp only[go_sem],by simp only[go_sem],by(simp only[go_sem]<;>rfl),by(simp only[go_sem]<;>rfl),rfl⟩ ?_
 rintro m T h' ⟨n,S,o,t1,t5,t6,J,t,g,rfl⟩
 simp only[go_sem,t,g]
 refine ways (λe=>?_) (λe=>?_)
 ·have d:=dlt e
  have b:=Xk d
  have A:(n:Int)<v.length:=by omega
  have O:=i _ (zD d)
  have u:vW s (v.take (n+1))=vW s (v.take n)++JQ s v[n]:=by unfold vW;rw[<-zI d,List.flatMap_append];simp
  have G:=QY s (v.take n)
  rw[qa] at G
  obtain⟨z,y⟩:∃z,z=v[n]:=⟨_,rfl⟩
  rw[<-y] at b u O
  simp only[go_sem,t6,J,g,b,A,zb,Int.toNat_natCast,zh]
  refine zg (Vta F h h' _ (h.length+1) h.length s a o (o.pre.sin k) Q p (by omega) z O) ?_
  rintro _ R ⟨rfl,k6⟩
  rw[<-u] at k6
  simp only[go_sem,g]
  exact⟨v.length - (n+1),by omega,n+1,by omega,k6,t1,t5,t6,J,t,qm (by omega) rfl,rfl⟩
 ·have W:=xb e
  have D:n=v.length:=by omega
  subst D
  obtain⟨X,C,E⟩:=o.at_
  simp only[go_sem,t1,t5,C]
  refine zg (YHa _ x X l _ (o.pre.sl M) E.rows P (by omega)) ?_
  rintro _ R ⟨rfl,rfl⟩
  rw[<-j]
  simp only[go_sem]
  obtain⟨L,U,_⟩:=o.pre
  rw[U]
  exact⟨_,by simp only[go_sem],.inr ⟨h,_,rfl,rfl,JI _,.refl,.inl rfl,rfl⟩⟩
theorem YSa(h:List Ob)(s:Setup)(a:SA)(k:SIn h s a)(f:SFit s)(x:AV)(l:List Spn)(b:SlOf h x 2 (l.map qE))(c:l.length<1048576):
  ACalls Tryz.prog 118 [je s a,x] h λr h'=>r=spv (jX s l)/\h'=h:=
 X8 ((Vva h s a k f x l b c).mono λr h' ⟨q,e⟩=>⟨q.imp_right λq=>⟨q.1,by rw[q.2];rfl⟩,e⟩)
