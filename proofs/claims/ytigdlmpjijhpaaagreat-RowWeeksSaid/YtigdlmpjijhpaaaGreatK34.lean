/-
  Joined.
-/
import Derived.Test.YtigdlmpjijhpaaaGreatK33
import Derived.Lib.AppendZerosOnto
import Derived.Lib.Walk
import Derived.Lib.SliceRun
import Derived.Lib.Hide
import Derived.Test.YtigdlmpjijhpaaaGreatK31
set_option linter.unusedSimpArgs false
set_option linter.unusedVariables false
namespace Go.Proofs.YtigdlmpjijhpaaaGreat.Ax
open Go Go.RowKit
section
variable {P:Program}
theorem Yi {g:Operand} {j:Array Tmp} {assign body:Code} {Q:Exit->Act->World->Prop} {a:Act} {w:World} {n c:Nat} {i:Array Value}
  (q:a.eval g= .func (.func c) #[] i) (o:∀args w,(callFunc c args).run P w= .ok (.enter c args) w)
  (h:∀(fn:FuncId) (rec:LoopState->Option Code->Loop),rec=(λst k=>{ state:=st,pending:=k,fn,tmps:=a.tmps,params:=j,assign,body,defers:=w.heap.size })->
   CallsIn Fence.wide (n - 1) P c (#[.func (.yield (w.heap.size+1)) #[] #[]]++i) ((w.alloc (.deferred (some []))).alloc (.loop (rec .ready none))) λe l=>(∃v,e= .returned v)/\
    l.heap[w.heap.size+1]? =some (.loop (rec .ready none))/\Q .normal { a with defers:={ target:= .collected w.heap.size,args:= #[] }::a.defers } (l.putObj (w.heap.size+1) (.loop (rec .exhausted none)))):
  (Code.rangeFunc g j assign body).wpIn Fence.wide n P Q a w:=by
 refine wpIn_rangeFunc ?_
 intro fn m
 obtain ⟨rec,b⟩:∃rec:LoopState->Option Code->Loop,rec=λst k=>{ state:=st,pending:=k,fn,tmps:=a.tmps,params:=j,assign,body,defers:=w.heap.size }:=⟨_,rfl⟩
 obtain ⟨f,d⟩:∃f,(w.alloc (.deferred (some []))).alloc (.loop (rec .ready none))=f:=⟨_,rfl⟩
 have h:=h fn rec b
 rw[d] at h
 refine ⟨w.heap.size+1,[{ target:= .collected w.heap.size,args:= #[] }],f,{ target:= .fn (.func c) i,args:= #[.func (.yield (w.heap.size+1)) #[] #[]] },f,c,
  #[.func (.yield (w.heap.size+1)) #[] #[]]++i,f,?_,?_,?_,?_,λh=>(by cases h),?_⟩
 ·rw[<-d,b];exact run_enterLoop_outer _ _ _ _ _
 ·simp only[resolve,q]
  simp[go_sem]
 ·intro t _;exact trivial
 ·simp[invoke,go_sem,o]
 ·refine h.mono ?_
  rintro e s ⟨⟨v,rfl⟩,r,p⟩
  exact ⟨none,_,by have:=run_endLoop (P:=P) r (by rw[b];simp);rw[b] at this ⊢;exact this,p⟩
end
def KeepB (n:Nat) (h h':List Ob):Prop:=∀(j:Nat) (ty:TypeId) (a:List AV),n<=j->h[j]? =some (.box ty a)->h'[j]? =some (.box ty a)
theorem KeepB.trans {n:Nat} {a b c:List Ob} (h:KeepB n a b) (k:KeepB n b c):KeepB n a c:=λj ty e d q=>k j ty e d (h j ty e d q)
theorem KeepB.raw {n i:Nat} {a:List Ob} {l o ks us o'} (b:a[i]? =some (.raw l o ks us)):KeepB n a (a.set i (.raw l o' ks us)):=λj ty c _ q=>by
 have:i≠j:=λe=>by rw[e,q] at b;cases b
 rw[List.getElem?_set_ne this];exact q
theorem KeepB.mono {n m:Nat} {a b:List Ob} (h:KeepB n a b) (d:n<=m):KeepB m a b:=λj ty c e q=>h j ty c (by omega) q
def Zwa (P:Program) (c:FuncId) (b:List AV) (Rd:List Ob->Prop) (xs:List AV):Prop:=
 ∀ (l:Nat) (K:Nat->List Ob->Prop) (a:List Ob),K 0 a->(∀i h' M,NoRes M->K i h'->K i (h'++M))->(∀i h',K i h'->Rd h')->(∃h',K xs.length h'/\ResK a h')->(∀i h',K i h'->a.length<=h'.length)->
   (∀i x h',xs[i]? =some x->K i h'->Xd P l [x] h' λh''=>K (i+1) h''/\KeepB a.length h' h'')->ACalls P c (.v (.func (.yield l) #[] #[])::b) a λ_ h'=>K xs.length h'
def RawK (h h':List Ob):Prop:=∀(j l:Nat) (o:Obj) (ks:List AV) (us:List Value),h[j]? =some (.raw l o ks us)->h'[j]? =some (.raw l o ks us)
def kYa (N:Nat) (T:Env):Env:=λi=>if i<N then T i else .bad
theorem kZa (N:Nat) (T:Env) (i:Nat):kYa N T i=if i<N then T i else .bad:=id rfl
section
variable {P:Program} {N b:Nat} {T:Env} {h:List Ob} {ds:List Deferred}
theorem j9a {T:Env} {c:Ctx} {a:Act} (g:kW c T a):∀(n:Nat) (us:List Value),us.length=n->(∀i,i<n->us[i]? =some (a.tmps.getD i undef))->ARs c ((List.range n).map T) us:=λn us h j=>
 YV (by simp[h]) λk x b=>by
  rw[List.getElem?_map] at b
  cases e:(List.range n)[k]? with
  | none=>rw[e] at b;cases b
  | some i=>
    rw[e] at b
    injection b with b
    obtain ⟨f,d⟩:=List.getElem?_eq_some_iff.1 e
    rw[List.getElem_range] at d
    subst d b
    rw[List.length_range] at f
    exact ⟨_,j _ f,g k⟩
theorem xaa {T:Env} {c:Ctx}:∀ {n:Nat} {us:List Value},ARs c ((List.range n).map T) us->us.length=n/\∀i,i<n->∃u,us[i]? =some u/\AR c (T i) u:=λ{n us} k=>by
 have a:=xy k
 rw[List.length_map,List.length_range] at a
 refine ⟨a.symm,λi b=>?_⟩
 obtain ⟨u,e,d⟩:=kL k i (by simpa using b)
 refine ⟨u,e,?_⟩
 have:nth ((List.range n).map T) i=T i:=Z9 (by rw[List.getElem?_map,List.getElem?_range b];rfl)
 rw[this] at d
 exact d
theorem k0a {b:FuncId} (k1:Xc P b=true):∀args w,(callFunc b args).run P w= .ok (.enter b args) w:=λargs w=>by
 have a:∃fn,P.funcs[b]? =some fn/\fn.name≠ "runtime.NumGoroutine" /\fn.body.isSome=true:=by
  unfold Xc at k1
  split at k1
  ·rename_i fn a
   simp only[Bool.and_eq_true,bne_iff_ne,ne_eq] at k1
   exact ⟨fn,a,k1.1,k1.2⟩
  ·cases k1
 obtain ⟨fn,c,f,d⟩:=a
 have f5:(fn.name== "runtime.NumGoroutine")=false:=by simpa using f
 have g:fn.body.isNone=false:=by cases e:fn.body<;>simp[e] at d⊢
 simp only[callFunc,Sem.run_bind,run_program,c,g,f5,Bool.false_eq_true,if_false,Result.andThen_ok,Sem.run_pure]
theorem xba {n m l:Nat} {f:FuncId} {tmps:Array Value} {assign body:Code} {w:World} {R:Ending->World->Prop} (k:RoundIn Fence.wide n P l f tmps assign body w R):RoundIn Fence.wide m P l f tmps assign body w R:=
 ⟨k.1,λc a _=>k.2 c a (room_wide _)⟩
theorem XY {p:Nat} {g:Operand} {assign body:Code} {gf:FuncId} {lb:List AV} {xs:List AV} (hp:p<N) (υ:Xc P gf=true) (hg:ev T g= .fn (.func gf) [] lb) {Rd:List Ob->Prop} (hseq:Zwa P gf lb Rd xs)
  (K:Nat->List Ob->Prop) (J:Nat->AV->Env->List Ob->Prop)
  (hK0:∀M,NoRes M->K 0 (h++M)) (happ:∀i h' M,NoRes M->K i h'->K i (h'++M)) (hrd:∀i h',K i h'->Rd h') (hKex:∀M,NoRes M->∃h',K xs.length h'/\ResK (h++M) h'/\RawK (h++M) h')
  (X:∀i h' j l o ks us o',h.length<=j->K i h'->h'[j]? =some (.raw l o ks us)->K i (h'.set j (.raw l o' ks us)))
  (η:∀i x I c j l o ks us o',h.length<=j->J i x I c->c[j]? =some (.raw l o ks us)->J i x I (c.set j (.raw l o' ks us)))
  (ρ:∀b l i x h',xs[i]? =some x->K i h'->RWp P N b l assign (λe I c=>e= .normal/\J i x I c/\RawK h' c/\KeepB h.length h' c) (upd (kYa N T) p x) h')
  (α:∀b l i x I c,xs[i]? =some x->J i x I c->RWp P N b l body (λe _ h3=>e= .normal/\K (i+1) h3/\RawK c h3/\KeepB h.length c h3) I c):
  Zt P N b ds (.rangeFunc g #[p] assign body) (λe ds' T' h'=>e= .normal/\T'=T/\∃D id:Nat,ds'=⟨.collected D, #[]⟩::ds/\h.length<=id/\h'[id]? =some (.raw D (.deferred (some [])) [] [])/\K xs.length h') T h:=λφ hu w g0 a r=>by
 have hgv:=qy r.t g
 rw[hg] at hgv
 obtain ⟨us0,θ,e1,e2,e3⟩:=hgv
 have e2:us0.toList=[]:=e2
 have e2:us0= #[]:=by simpa using e2
 subst e2
 refine (wpIn_wide (n:=1)).1 (Yi e1 (k0a υ) ?_)
 intro fn rec G
 obtain ⟨D,hD⟩:∃D,D=w.heap.size:=⟨_,rfl⟩
 obtain ⟨l,hl⟩:∃l,l=D+1:=⟨_,rfl⟩
 obtain ⟨ks,ν⟩:∃ks,ks=(List.range N).map T:=⟨_,rfl⟩
 obtain ⟨us,hus⟩:∃us,us=a.tmps.toList:=⟨_,rfl⟩
 have hark:ARs (ctx w g0 (fill φ h)) ks us:=by
  rw[ν,hus]
  refine j9a r.t N _ (by rw[Array.length_toList];exact r.n) λi hi=>?_
  rw[Array.getElem?_toList,Array.getD_eq_getD_getElem?]
  rw[Array.getElem?_eq_getElem (by rw[r.n];exact hi)]
  rfl
 have k1:=Wi (g:=g0) r.ok r.hB (.deferred (some [])) (ks:=[]) (us:=[]) rfl
 have k2:=Wi k1.ok k1.size (.loop (rec .ready none)) (ARs.le k1.le _ _ hark)
 have k12:=k1.trans k2
 rw[<-hD] at k12
 have hs1:(w.alloc (.deferred (some []))).heap.size=l:=by rw[World.size_alloc,hl,hD]
 rw[hs1] at k12
 obtain ⟨O,s⟩:∃O,O=h++[.raw D (.deferred (some [])) [] [],.raw l (.loop (rec .ready none)) ks us]:=⟨_,rfl⟩
 have hfl:fill φ O=fill φ h++[.raw D (.deferred (some [])) [] []]++[.raw l (.loop (rec .ready none)) ks us]:=by rw[s,jh hu];simp
 rw[<-hfl] at k12
 obtain ⟨W1,hW1⟩:∃W1,W1=(w.alloc (.deferred (some []))).alloc (.loop (rec .ready none)):=⟨_,rfl⟩
 rw[<-hW1] at k12⊢
 have hp1:Pre h O:=⟨_,s,zg rfl (zj rfl)⟩
 have Y:O.length=h.length+2:=by rw[s];simp
 have z:∀st L,(Loop.params (rec st L))= #[p]/\(rec st L).tmps=a.tmps/\(rec st L).assign=assign/\(rec st L).body=body/\(rec st L).state=st/\(rec st L).pending=L/\(rec st L).fn=fn:=λst L=>by rw[G];exact ⟨rfl,rfl,rfl,rfl,rfl,rfl,rfl⟩
 obtain ⟨KK,y⟩:∃KK:Nat->List Ob->Prop,KK=λi h'=>K i h'/\h'[h.length]? =some (.raw D (.deferred (some [])) [] [])/\h'[h.length+1]? =some (.raw l (.loop (rec .ready none)) ks us):=⟨_,rfl⟩
 have hy:∀i x h',xs[i]? =some x->KK i h'->Xd P l [x] h' λh''=>KK (i+1) h''/\KeepB O.length h' h'':=by
  intro i x h' hx τ H hu' B' w' g' vs hh hB hvs
  rw[y] at τ
  obtain ⟨q1,U,q3⟩:=τ
  obtain ⟨v,r0,rfl,hv,ζ⟩:=hvs
  have ζ:r0=[]:=ζ
  subst ζ
  obtain ⟨hb1,hb2,hb3⟩:=hh.ok _ _ (zM (φ:=H) q3 rfl)
  have hyr:=run_yield (P:=P) (w:=w') (args:= #[v]) hb2 (by rw[(z _ _).1];rfl)
  rw[(z _ _).1,(z _ _).2.1,(z _ _).2.2.1,(z _ _).2.2.2.1,(z _ _).2.2.2.2.2.2] at hyr
  refine ⟨_,_,_,_,hyr,λm=>xba (n:=0) (roundIn_of_wpIn trivial ?_)⟩
  have htm:((#[p].zip #[v]).foldl (λtmps (t,a)=>tmps.setIfInBounds t a) a.tmps:Array Value)=a.tmps.setIfInBounds p v:=by simp
  have hT2:kW (ctx w' g' (fill H h')) (kYa N T) a:=λi=>by
   unfold kYa
   split
   ·rename_i hi
    rw[ν] at hb3
    obtain ⟨u,z1,z2⟩:=(xaa hb3).2 i hi
    rw[hus,Array.getElem?_toList] at z1
    rw[Array.getD_eq_getD_getElem?,z1]
    exact z2
   ·trivial
  have F:Rel N ⟨B',[]⟩ w' g' (fill H h') ⟨a.tmps.setIfInBounds p v,[]⟩ (upd (kYa N T) p x):=
   ⟨hh,hB,qya (a:=a) hT2 hv (by rw[r.n];exact hp),rfl,by simp[r.n]⟩
  refine Code.wpIn_mono ?_ (ρ B' l i x h' hx q1 H hu' w' g' _ (by first | (rw[htm];exact F) | simpa using F))
  rintro e a1 w1 ⟨I,c,⟨rfl,σ,hrk,hkb⟩,g2,qk1,β,C⟩
  have A:=hrk _ _ _ _ _ q3
  have δ:=C.ok.ok _ _ (zM (φ:=H) A rfl)
  have γ:{ rec .ready none with state:= .busy }=rec .busy none:=by rw[G]
  refine ⟨_,run_beginRound δ.2.1 (z _ _).2.2.2.2.1,?_⟩
  rw[γ]
  have kt:=Qd C.ok C.size (zM (φ:=H) A rfl) (.loop (rec .busy none))
  rw[<-q9 rfl] at kt
  have S:h.length+1<c.length:=(List.getElem?_eq_some_iff.1 A).1
  have ι:Rel N ⟨B',[]⟩ (w1.putObj l (.loop (rec .busy none))) g2 (fill H (c.set (h.length+1) (.raw l (.loop (rec .busy none)) ks us))) a1 I:=⟨kt.ok,kt.size,λi=>AR.le kt.le _ _ (β.t i),β.d,β.n⟩
  refine Code.wpIn_mono ?_ (α B' l i x I _ hx (η _ _ _ _ _ _ _ _ _ _ (by omega) σ A) H (hu'.mono (by rw[List.length_set];exact Qi C)) _ g2 a1 ι)
  rintro e a2 w3 ⟨T3,h3,⟨rfl,hk3,W,hkb3⟩,g3,qk2,qr2,Q⟩
  have q3s:(c.set (h.length+1) (.raw l (.loop (rec .busy none)) ks us))[h.length+1]? =some (.raw l (.loop (rec .busy none)) ks us):=List.getElem?_set_self S
  have B:=W _ _ _ _ _ q3s
  have Z:=Q.ok.ok _ _ (zM (φ:=H) B rfl)
  have R:=run_endRound (P:=P) none Z.2.1
  have hrdy:{ rec .busy none with state:=if (none:Option Code).isNone then .ready else .done,pending:=none }=rec .ready none:=by rw[G];rfl
  rw[hrdy] at R
  refine ⟨_,_,R,?_⟩
  have kt3:=Qd Q.ok Q.size (zM (φ:=H) B rfl) (.loop (rec .ready none))
  rw[<-q9 rfl] at kt3
  have hd1:=hrk _ _ _ _ _ U
  have hd2:(c.set (h.length+1) (.raw l (.loop (rec .busy none)) ks us))[h.length]? =some (.raw D (.deferred (some [])) [] []):=by
   rw[List.getElem?_set_ne (by omega)];exact hd1
  have hd3:=W _ _ _ _ _ hd2
  have χ:h.length+1<h3.length:=(List.getElem?_eq_some_iff.1 B).1
  refine ⟨h3.set (h.length+1) (.raw l (.loop (rec .ready none)) ks us),g3,rfl,⟨?_,((((hkb.trans (.raw A)).trans hkb3).trans (.raw B)).mono (by rw[Y];omega))⟩,?_,(C.trans kt).trans (Q.trans kt3)⟩
  ·rw[y]
   exact ⟨X _ _ _ _ _ _ _ _ (by omega) hk3 B,by rw[List.getElem?_set_ne (by omega)];exact hd3,List.getElem?_set_self χ⟩
  ·exact ((qk1.trans (zK A rfl)).trans qk2).trans (zK B rfl)
 have hc:=hseq l KK O
  (by rw[y];exact ⟨by rw[s];exact hK0 _ (zg rfl (zj rfl)),by rw[s,zm rfl];rfl,by rw[s,zl (k:=1) rfl];rfl⟩)
  (λi h' M hM q=>by
   rw[y] at q⊢
   obtain ⟨q1,U,q3⟩:=q
   exact ⟨happ i h' M hM q1,zb U,zb q3⟩) (λi h' q=>by rw[y] at q;exact hrd i h' q.1)
  (by
   obtain ⟨h',z1,z2,z3⟩:=hKex [.raw D (.deferred (some [])) [] [],.raw l (.loop (rec .ready none)) ks us] (zg rfl (zj rfl))
   rw[y]
   exact ⟨h',⟨z1,z3 _ _ _ _ _ (by rw[zm rfl];rfl),z3 _ _ _ _ _ (by rw[zl (k:=1) rfl];rfl)⟩,by rw[s];exact z2⟩)
  (λi h' q=>by
   rw[y] at q
   have:=(List.getElem?_eq_some_iff.1 q.2.2).1
   omega) hy
 have ε:ARs (ctx W1 g0 (fill φ O)) (.v (.func (.yield l) #[] #[])::lb) (Value.func (.yield l) #[] #[]::θ.toList):=⟨_,_,rfl,rfl,ARs.le k12.le _ _ e3⟩
 have E:=hc.2.2 φ (hu.mono hp1.len) b W1 g0 _ k12.ok k12.size ε
 refine callsIn_wide.2 ?_
 have harr:(Value.func (.yield l) #[] #[]::θ.toList).toArray= #[.func (.yield (w.heap.size+1)) #[] #[]]++θ:=by
  rw[hl,hD];simp
 rw[harr] at E
 refine E.mono λe W2 ⟨v,_,c,g2,q1,U,q5,q6,_⟩=>⟨⟨v,q1⟩,?_⟩
 rw[y] at U
 obtain ⟨U,q3,B⟩:=U
 have ω:=q6.ok.ok _ _ (zM (φ:=φ) B rfl)
 have V:=Qd q6.ok q6.size (zM (φ:=φ) B rfl) (.loop (rec .exhausted none))
 rw[<-q9 rfl] at V
 rw[<-hD, <-hl]
 have S:h.length+1<c.length:=(List.getElem?_eq_some_iff.1 B).1
 have f:=(k12.trans q6).trans V
 refine ⟨ω.2.1,_,T,c.set (h.length+1) (.raw l (.loop (rec .exhausted none)) ks us),⟨rfl,rfl,D,h.length,rfl,Nat.le_refl _,by rw[List.getElem?_set_ne (by omega)];exact q3,X _ _ _ _ _ _ _ _ (by omega) U B⟩,g2,?_,?_,f⟩
 ·have:ResK h O:=by rw[s];exact zW
  exact (this.trans q5).trans (zK B rfl)
 ·exact ⟨f.ok,f.size,λi=>AR.le f.le _ _ (r.t i),by simp[r.d],r.n⟩
theorem qNa:∀ {ar:List AV} {i:Nat},ar.length<=i->nth ar i= .bad
 | [],_,_=>rfl
 | x::ar,0,h=>absurd h (Nat.not_succ_le_zero _)
 | x::ar,i+1,h=>qNa (ar:=ar) (Nat.le_of_succ_le_succ h)
theorem wGa {B:Nat} {w:World} {g:Gh} {a:Act} {fn:Func} {r:AV} (k:HOk B w g h) (hB:B<=w.heap.size) (m:kW (ctx w g h) T a) (b:JJ P T h fn.results.toList=some r):∃v,(results fn a.tmps).run P w= .ok v w/\AR (ctx w g h) r v:=by
 unfold JJ at b
 cases e:kX P T h fn.results.toList with
 | none=>rw[e] at b;cases b
 | some xs=>
   rw[e] at b
   injection b with b
   obtain ⟨us,n,f⟩:=wU k hB m _ xs e
   have s:(fn.results.mapM (jia a.tmps)).run P w= .ok us.toArray w:=by
    rw[Array.mapM_eq_mapM_toList]
    simp[n]
   have c:(results fn a.tmps).run P w= .ok (if h:us.toArray.size=1 then us.toArray[0] else .tuple us.toArray) w:=by
    rw[Xh,Sem.run_bind,s]
    rfl
   refine ⟨_,c,?_⟩
   have p:=xy f
   unfold v2a at b
   split at b
   ·rename_i x
    subst b
    obtain ⟨u,q,l,o,j⟩:=f
    have j:q=[]:=j
    subst j l
    simpa using o
   ·rename_i i
    subst b
    rw[dif_neg]
    ·exact ⟨us.toArray,rfl,by simpa using f⟩
    ·intro d
     have d:us.length=1:=by simpa using d
     rw[<-p] at d
     match xs,d with
     | [x],_=>exact i x rfl
def Q5a (P:Program) (rs:List ResultVar) (h:List Ob) (R:AV->Prop):wM:=λe ds T h'=>
 (e= .ret∨e= .normal)/\(ds=[]∨∃D id:Nat,ds=[⟨.collected D, #[]⟩]/\h.length<=id/\h'[id]? =some (.raw D (.deferred (some [])) [] []))/\Pre h h'/\(∃r,(∀a,JJ P T a rs=some r)/\r.lt h.length=true/\R r)
theorem Jw {f:FuncId} (fn:Func) {c:Code} {ar:List AV} {R:AV->Prop} (rs:List ResultVar) (N:Nat) (hf:P.funcs[f]? =some fn) (hb:fn.body=some c) (Y:fn.ntmps=N) (G:fn.results.toList=rs) (S:ar.length.ble N=true) (J:Xc P f=true) (hex:∃r,R r)
  (k:∀b,Zt P N b [] c (Q5a P rs h R) (nth ar) h):ACalls P f ar h λr h'=>R r/\h'=h:=by
 subst Y G
 have S:=Nat.le_of_ble_eq_true S
 refine ⟨J,(let ⟨r,q⟩:=hex;⟨r,h,⟨q,rfl⟩,.refl⟩),λφ T B w g vs V hB a=>?_⟩
 have W:=xy a
 refine (callsIn_wide (n:=0)).1 (callsIn_of_wp_marks (F:=Fence.wide) hf hb trivial (wpIn_wide.2 ?_))
 have A:Rel fn.ntmps ⟨B,[]⟩ w g (fill φ h) { tmps:=vs.toArray++Array.replicate (fn.ntmps - vs.toArray.size) undef,defers:=[] } (nth ar):=by
  refine ⟨V,hB,λi=>?_,rfl,by simp;omega⟩
  by_cases hi:i<ar.length
  ·obtain ⟨u,Z,e2⟩:=kL a i hi
   have:(vs.toArray++Array.replicate (fn.ntmps - vs.toArray.size) undef).getD i undef=u:=by
    rw[Array.getD_eq_getD_getElem?,Array.getElem?_append_left (by simp;omega)]
    simp[Z]
   simp only[this]
   exact e2
  ·rw[qNa (by omega)]
   trivial
 refine wp_mono (k B φ T w g _ A) λe C w' ⟨ds,T',h',⟨he,H,s,⟨r,I,K,M⟩⟩,g',ek,O,p⟩=>?_
 obtain ⟨L,rfl,hL⟩:=s
 have fin:∀(m:World) (E:List Ob),Good B w g (fill φ h) m g' (fill φ E)->kW (ctx m g' (fill φ E)) T' C->(∃L2,E=h++L2)->∃v,(results fn C.tmps).run P m= .ok v m/\∃v' U h'' g'',Ending.returned v= .returned v'/\(R U/\h''=h)/\ResK h h''/\Good B w g (fill φ h) m g'' (fill φ h'')/\AR (ctx m g'' (fill φ h'')) U v':=by
  rintro m E l Q ⟨L2,rfl⟩
  obtain ⟨v,z,o⟩:=wGa (fn:=fn) l.ok l.size Q (I _)
  rw[jh T] at l o
  refine ⟨v,z,v,r,h,g',rfl,⟨M,rfl⟩,.refl,l.drop rfl (by have:=V.ids;exact this),AR.less (km m g' (fill φ h) L2) _ _ (by rw[qi];exact K) o⟩
 have main:LeavesInM Fence.wide 0 P fn C.tmps (λe w'=>∃v r h' g',e= .returned v/\(R r/\h'=h)/\ResK h h'/\Good B w g (fill φ h) w' g' (fill φ h')/\AR (ctx w' g' (fill φ h')) r v) C.defers .returning w':=by
  rw[O.d]
  rcases H with rfl | ⟨D,id,rfl,y,X⟩
  ·obtain ⟨v,z,o⟩:=fin w' _ p O.t ⟨L,rfl⟩
   exact ⟨v,z,o⟩
  ·have x:=p.ok.ok _ _ (zM (φ:=φ) X rfl)
   have j:=Qd p.ok p.size (zM (φ:=φ) X rfl) (.deferred none)
   rw[<-q9 rfl] at j
   obtain ⟨v,z,o⟩:=fin _ _ (p.trans j) (λi=>AR.le j.le _ _ (O.t i)) ⟨L.set (id - h.length) _,by rw[List.set_append_right _ _ y]⟩
   exact ⟨by simp,.inl ⟨D,_,rfl,run_takeDeferred x.2.1,v,z,o⟩⟩
 rcases he with rfl | rfl
 ·exact main
 ·exact main
end
theorem KeepB.app {n:Nat} {a M:List Ob}:KeepB n a (a++M):=λj ty b _ q=>zb q
theorem KeepB.setL {n i:Nat} {a:List Ob} {o:Ob} (b:i<n):KeepB n a (a.set i o):=λj ty d c q=>by
 rw[List.getElem?_set_ne (by omega)];exact q
theorem KeepB.setR {n i:Nat} {a:List Ob} {o:Ob} {ty e rows st} (b:a[i]? =some (.row ty e rows st)):KeepB n a (a.set i o):=λj ty d c q=>by
 have:i≠j:=λe=>by rw[e,q] at b;cases b
 rw[List.getElem?_set_ne this];exact q
theorem RawK.trans {a b c:List Ob} (h:RawK a b) (k:RawK b c):RawK a c:=λj l o ks us q=>k j l o ks us (h j l o ks us q)
theorem RawK.app {a M:List Ob}:RawK a (a++M):=λj l o ks us q=>zb q
theorem RawK.setB {i:Nat} {a:List Ob} {o:Ob} {ty cs} (b:a[i]? =some (.box ty cs)):RawK a (a.set i o):=λj l _ ks us q=>by
 have:i≠j:=λe=>by rw[e,q] at b;cases b
 rw[List.getElem?_set_ne this];exact q
theorem RawK.setR {i:Nat} {a:List Ob} {o:Ob} {ty e rows st} (b:a[i]? =some (.row ty e rows st)):RawK a (a.set i o):=λj l _ ks us q=>by
 have:i≠j:=λe=>by rw[e,q] at b;cases b
 rw[List.getElem?_set_ne this];exact q
section
variable {F:List (Nat × Ob)} {h0 h:List Ob} {i bty ty e:Nat} {rows rows':List (List AV)}
theorem LIn.raw (k:LIn F h0 h i bty ty e rows) {j l o ks us o'} (n:h0.length<=j) (a:h[j]? =some (.raw l o ks us)):LIn F h0 (h.set j (.raw l o' ks us)) i bty ty e rows:=by
 obtain ⟨k1,k2,k3,x,k4,k5⟩:=k
 have f:∀(z:Nat) t b,h[z]? =some (.box t b)->(h.set j (.raw l o' ks us))[z]? =some (.box t b):=λz t b q=>by
  have:j≠z:=λe=>by rw[e,q] at a;cases a
  rw[List.getElem?_set_ne this];exact q
 refine ⟨k1.set n rfl,k2,λz c=>⟨(k3 z c).1,(k3 z c).2.1,?_⟩,x,f _ _ _ k4,?_⟩
 ·obtain ⟨s,⟨t,b,m⟩,g⟩:=k3 z c
  rw[m] at g⊢
  exact f _ _ _ g
 ·rcases k5 with ⟨rfl,r⟩ | ⟨id,st,p,rfl,d⟩
  ·exact .inl ⟨rfl,r⟩
  ·refine .inr ⟨id,st,p,rfl,?_⟩
   have:j≠id:=λe=>by rw[e,d] at a;cases a
   rw[List.getElem?_set_ne this];exact d
theorem LIn.box (k:LIn F h0 h i bty ty e rows):∃x,h[i]? =some (.box bty [x]):=⟨_,k.at_.choose_spec.1⟩
theorem LIn.raws (k:LIn F h0 h i bty ty e rows) {M:List Ob} {o:Ob}:RawK h ((h++M).set i o):=by
 obtain ⟨x,a⟩:=k.box
 exact RawK.app.trans (.setB (zb a))
theorem LIn.raws_own (k:LIn F h0 h i bty ty e rows) {M:List Ob} {o o':Ob} {id:Nat} {c ee:Nat} {a:List (List AV)} {st:Nat} (b:h[id]? =some (.row c ee a st)):RawK h (((h++M).set id o').set i o):=by
 obtain ⟨x,f⟩:=k.box
 have d:id≠i:=λq=>by rw[q,f] at b;cases b
 exact (RawK.app.trans (.setR (zb b))).trans (.setB (by rw[List.getElem?_set_ne d];exact zb f))
theorem LIn.anyR (k:LIn F h0 h i bty ty e rows) (rows':List (List AV)):∃h',LIn F h0 h' i bty ty e rows'/\ResK h h'/\RawK h h':=by
 have q:=k.push_nil (M:=[.row ty e rows' 0]) (zj rfl) (id:=h.length) (Nat.le_refl _) (by rw[zm rfl];rfl)
 exact ⟨_,q,k.pre.resK q.pre,k.raws⟩
end
section
variable {P:Program} {N b:Nat} {T:Env} {h:List Ob} {ds:List Deferred}
def k1a (P:Program) (N b:Nat) (ds:List Deferred) [x:Held (Code × wM)] (T:Env) (h:List Ob):Prop:=Zt P N b ds x.it.1 x.it.2 T h
theorem qOa {c:Code} {X:wM} (k:Zt P N b ds c X T h): @k1a P N b ds ⟨(c,X)⟩ T h:=k
theorem Vb {c:Code} {X Y:wM} (k:Zt P N b ds c X T h) (i:∀e ds T h,X e ds T h->Y e ds T h):Zt P N b ds c Y T h:=λφ l w g a r=>
 wp_mono (k φ l w g a r) λe m w' ⟨d,j,h',f,q⟩=>⟨d,j,h',i _ _ _ _ f,q⟩
end
section
variable {P:Program} {N b:Nat} {T:Env} {h:List Ob} {ds:List Deferred}
def zUa (P:Program) (N b:Nat) (ds:List Deferred) [x:Held (Code × wM)]:jr
 | .normal,T,h=> @k1a P N b ds x T h
 | e,T,h=>x.it.2 e ds T h
theorem k2a (x:Held (Code × wM)): @zUa P N b ds x .normal T h= @k1a P N b ds x T h:=id rfl
theorem k3a (c:Code) (X:wM): @zUa P N b ds ⟨(c,X)⟩ .ret T h=X .ret ds T h:=id rfl
attribute [go_sem] k2a k3a
theorem jq {c c':Code} {X:wM} (a:okC N c=true) (k:wpC P N ⟨b,ds⟩ c (@zUa P N b ds ⟨(c',X)⟩) T h):Zt P N b ds (.seq c c') X T h:=
 XX (qMa (qv _ a k) λe T h q=>by cases e<;>exact q)
theorem Vc {c:Code} {X:wM} (a:okC N c=true) (k:wpC P N ⟨b,ds⟩ c (λe T h=>X e ds T h) T h):Zt P N b ds c X T h:=
 qMa (qv _ a k) λe T h q=>q
theorem k4a {rs:List ResultVar} {h0 h':List Ob} {T:Env} {R:AV->Prop} {ds:List Deferred} (a:ds=[]∨∃D id:Nat,ds=[⟨.collected D, #[]⟩]/\h0.length<=id/\h'[id]? =some (.raw D (.deferred (some [])) [] [])) (c:Pre h0 h') {r:AV} (b:∀d,JJ P T d rs=some r) (e:r.lt h0.length=true) (f:R r):Q5a P rs h0 R .ret ds T h':=
 ⟨.inl rfl,a,c,⟨r,b,e,f⟩⟩
end
end Go.Proofs.YtigdlmpjijhpaaaGreat.Ax
namespace Go.Proofs.YtigdlmpjijhpaaaGreat.Ax
open Go Go.Proofs
set_option maxRecDepth 100000
theorem V3 {v:List Spn} {i:Nat} {k:Int} (h:i<v.length):zT k (v.drop i)=(if (v[i]).from_>k then [⟨k,(v[i]).from_⟩] else [])++zT (v[i]).to_ (v.drop (i+1)):=by
 rw[List.drop_eq_getElem_cons h,zT]
theorem Vd {α:Type} {L r:List α} {n:Nat} {x:α} (h:L.drop n=x::r):L[n]? =some x/\L.drop (n+1)=r:=by
 have a:(L.drop n)[0]? =some x:=by rw[h];rfl
 rw[List.getElem?_drop] at a
 refine ⟨a,?_⟩
 rw[<-List.drop_drop,h];rfl
theorem Yj {α:Type} {L:List α} {n:Nat} (h:L.drop n=[]) (a:n<=L.length):n=L.length:=by
 have:(L.drop n).length=0:=by rw[h];rfl
 rw[List.length_drop] at this
 omega
def XZ (s:Spn):AV:= .ag (zz s)
theorem xca (j:Nat) (v:List Spn) (Q:v.length<1048576):Zwa Tryz.prog 246 [.ptr j 0] (λh=>h[j]? =some (.box 55 [spv v])) ((zT 0 v).map XZ):=by
 intro l K I u d F o t L
 have hex:∃(r:AV) (h':List Ob),K ((zT 0 v).map XZ).length h'/\ResK I h':=by
  obtain ⟨h',q⟩:=o
  exact ⟨.tup [],h',q⟩
 have O:=F 0 I u
 refine zf Tryz.f246 [] 34 rfl rfl rfl rfl rfl rfl (by decide) (hex) λB=>?_
 simp only[go_sem,O,List.length_map]
 refine zk (by decide) (λm T h'=>∃(i n:Nat) (k:Int),i<=v.length/\n<=(zT 0 v).length/\(zT 0 v).drop n=zT k (v.drop i)/\K n h'/\T 0= .v (.func (.yield l) #[] #[])/\T 3=i64 k/\T 6=spv v/\T 7=i64 v.length/\T 8=i64 i/\m=v.length - i) v.length
  ⟨0,0,0,by omega,by omega,rfl,u,by simp only[go_sem],by simp only[go_sem],by simp only[go_sem],by (simp only[go_sem]<;>rfl),by (simp only[go_sem]<;>rfl),rfl⟩ ?_
 rintro m T h' ⟨i,n,k,P,H,a,g,t0,t3,t6,E,t8,rfl⟩
 simp only[go_sem,E,t8]
 refine ways (λe=>?_) (λe=>?_)
 ·have p:=dlt e
  have f:=yk p
  have C:(i:Int)<v.length:=by omega
  rw[V3 p] at a
  obtain ⟨z,N⟩:∃z,z=v[i]:=⟨_,rfl⟩
  rw[<-N] at f a
  simp only[go_sem,t3,t6,t8,f,C,List.length_map,Int.toNat_natCast,Int.natCast_nonneg]
  cases q:decide (z.from_>k)
  ·rw[if_neg (of_decide_eq_false q),List.nil_append] at a
   simp only[go_sem,q,t3,t8,zL]
   exact ⟨v.length - (i+1),by omega,i+1,n,_,by omega,H,a,d _ _ _ (zj rfl) g,t0,rfl,t6,E,zw (by omega) rfl,rfl⟩
  ·rw[if_pos (of_decide_eq_true q)] at a
   obtain ⟨s,x⟩:=Vd a
   have w:n<(zT 0 v).length:=(List.getElem?_eq_some_iff.1 s).1
   simp only[go_sem,q,t0,t3,t8,zL]
   refine yI (L n (XZ ⟨k,z.from_⟩) _ (by rw[List.getElem?_map,s];rfl) (d _ _ _ (zj rfl) g)) ?_
   rintro J ⟨c,D⟩
   have G:J[h'.length]? =some (.box 143 (zz z)):=D _ _ _ (t _ _ g) (by rw[zm rfl];rfl)
   simp only[go_sem,q,t0,t3,t8,zL,G]
   exact ⟨v.length - (i+1),by omega,i+1,n+1,_,by omega,by omega,x,c,rfl,t6,E,zw (by omega) rfl,rfl⟩
 ·have M:=jk e
  have y:i=v.length:=by omega
  subst y
  rw[List.drop_length,zT] at a
  simp only[go_sem,t3]
  refine ways (λA=>?_) (λA=>?_)
  ·rw[if_pos (of_decide_eq_true A)] at a
   obtain ⟨s,x⟩:=Vd a
   have w:n<(zT 0 v).length:=(List.getElem?_eq_some_iff.1 s).1
   simp only[go_sem,t0,t3]
   refine yI (L n (XZ ⟨k,32054400⟩) _ (by rw[List.getElem?_map,s];rfl) g) ?_
   rintro J ⟨c,_⟩
   have b:n+1=((zT 0 v).map XZ).length:=by
    rw[List.length_map];exact Yj x (by omega)
   rw[b,List.length_map] at c
   simp only[go_sem]
   exact ⟨_,rfl,.inl c⟩
  ·rw[if_neg (of_decide_eq_false A)] at a
   have b:n=((zT 0 v).map XZ).length:=by
    rw[List.length_map];exact Yj a H
   rw[b,List.length_map] at g
   simp only[go_sem]
   exact ⟨_,rfl,.inl g⟩
theorem wHa (h:List Ob) (v:List Spn):ACalls Tryz.prog 193 [spv v] h λr h'=>r= .fn (.func 246) [] [.ptr h.length 0]/\h'=h++[.box 55 [spv v]]:=by
 refine zf Tryz.f193 [.tmp 2] 4 rfl rfl rfl rfl rfl rfl (by decide) (⟨_,_,⟨rfl,rfl⟩,zW⟩) λB=>?_
 simp only[go_sem]
 exact ⟨_,rfl,.inl ⟨rfl,rfl⟩⟩
theorem ZW (h:List Ob) (x y:AV) (a b:List Spn) (f:SlOf h x 2 (a.map zz)) (hy:SlOf h y 2 (b.map zz)) (ha:a.length<1048576) (hb:b.length<524288):
  ACalls Tryz.prog 119 [x,y] h λr h'=>r=spv (zV a b)/\h'=h:=by
 refine Jw Tryz.f119 [.tmp 4] 18 rfl rfl rfl rfl rfl rfl (⟨_,rfl⟩) λbs=>?_
 refine jq (by decide) ?_
 simp only[go_sem]
 refine jq (by decide) ?_
 simp only[go_sem]
 refine XX ?_
 refine jq (by decide) ?_
 simp only[go_sem]
 refine zd (yW _ y b (hy.app _) (by omega)) ?_
 rintro _ h3 ⟨rfl,rfl⟩
 simp only[go_sem]
 refine zd (wHa _ (zt b)) ?_
 rintro _ h4 ⟨rfl,rfl⟩
 simp only[go_sem]
 have C:(zt b).length<1048576:=by have:=zq b;omega
 obtain ⟨v,T⟩:∃v,v=zt b:=⟨_,rfl⟩
 rw[<-T] at C⊢
 have β:=ZT v 0
 have W:v.length<524288:=by have:=zq b;rw[T];omega
 have base:LIn [(h.length+1,.box 55 [spv v])] h (h++[.box 55 [.v (.slice none 0 0)],.box 55 [spv v]]) h.length 55 143 2 []:=⟨⟨_,rfl,zg rfl (zj rfl)⟩,Nat.le_refl _,(λz P=>by
  cases P with
  | head=>exact ⟨by show h.length+1≠h.length;omega,⟨_,_,rfl⟩,by rw[zl (k:=1) rfl];rfl⟩
  | tail _ P=>cases P),_,by rw[zm rfl];rfl,.inl ⟨rfl,rfl⟩⟩
 have u:zV a b=QZ a (zT 0 v):=by rw[T];rfl
 refine qOa (Jv (Vb (XY (p:=10) (by decide) rfl (by simp only[go_sem]) (xca (h.length+1) v C)
  (λn h'=>LIn [(h.length+1,.box 55 [spv v])] h h' h.length 55 143 2 (((zT 0 v).take n).map zz))
  (λn x I d=>I 5= .ptr h.length 0/\∃s j,(zT 0 v)[n]? =some s/\I 6= .ptr j 0/\d[j]? =some (.box 143 (zz s))/\LIn [(h.length+1,.box 55 [spv v])] h d h.length 55 143 2 (((zT 0 v).take n).map zz))
  ?_ (λn h' M F k=>k.app F) (λn h' k=>k.keep (.head _)) ?_ ?_ ?_ ?_ ?_) ?_))
 ·exact λM F=>base.app F
 ·intro M F
  exact (base.app F).anyR _
 ·intro n h' j l o ks us o' S k G
  exact k.raw (Nat.le_trans (by rw[List.length_append];exact Nat.le_add_right _ _) S) G
 ·rintro n x I d j l o ks us o' S ⟨t5,s,m,U,N,J,k⟩ G
  refine ⟨t5,s,m,U,N,?_,k.raw (Nat.le_trans (by rw[List.length_append];exact Nat.le_add_right _ _) S) G⟩
  have:j≠m:=λe=>by rw[e,J] at G;cases G
  rw[List.getElem?_set_ne this];exact J
 ·intro Y l n x h' f k
  rw[List.getElem?_map] at f
  cases O:(zT 0 v)[n]? with
  | none=>rw[O] at f;cases f
  | some s=>
    rw[O] at f
    injection f with f
    subst f
    refine ym (by decide) (by decide) ?_
    simp only[go_sem,kZa,XZ]
    exact ⟨⟨s,h'.length,rfl,rfl,by rw[zm rfl];rfl,k.app (zj rfl)⟩,.app,.app⟩
 ·rintro Y l n x I d f ⟨t5,s,m,U,N,J,k⟩
  obtain ⟨V,c,t⟩:=k.at_
  refine Va (ym (by decide) (by decide) ?_)
  have H:(((zT 0 v).take n).length+1)*17<=140737488355328:=by rw[List.length_take];omega
  have w:((zT 0 v).take n).map zz++[zz s]=((zT 0 v).take (n+1)).map zz:=by
   obtain ⟨X,O⟩:=List.getElem?_eq_some_iff.1 U
   rw[<-List.take_append_getElem X,List.map_append,O];rfl
  have hi:=k.lt
  rcases t with ⟨rfl,B⟩ | ⟨id,st,u1,rfl,A⟩
  ·rw[B,List.nil_append] at w
   have g:∀M,(d++M)[h.length]? =some (.box 55 [.v (.slice none 0 0)]):=λM=>zb c
   simp only[go_sem,t5,N,J,c,g]
   have q:=k.push_nil (M:=[.row 143 2 [zz s] 0,.row 143 2 [zz s] 0]) (zg rfl (zj rfl)) (id:=d.length+1) (by omega) (by rw[zl (k:=1) rfl];rfl)
   refine ⟨by rw[<-w];exact q,k.raws,KeepB.app.trans (.setL (by omega))⟩
  ·have Z:∀M,(d++M)[id]? =some (.row 143 2 (((zT 0 v).take n).map zz) st):=λM=>zb A
   have g:∀M,(d++M)[h.length]? =some (.box 55 [.tl id st]):=λM=>zb c
   have R:id≠h.length:=λq=>by rw[q,c] at A;cases A
   have K:∀M o',((d++M).set id o')[h.length]? =some (.box 55 [.tl id st]):=λM o'=>by
    rw[List.getElem?_set_ne R];exact g M
   simp only[go_sem,t5,N,J,c,g,Z,K,List.length_map,H]
   have q:=k.push_own (M:=[.row 143 2 [zz s] 0]) (zj rfl) u1 A (rows':=((zT 0 v).take (n+1)).map zz)
   refine ⟨by rw[<-w] at q ⊢;exact q,k.raws_own A,(KeepB.app.trans (.setR (zb A))).trans (.setL (by omega))⟩
 ·rintro e ds I d ⟨rfl,rfl,D,id,rfl,hid,E,k⟩
  rw[List.length_append] at hid
  rw[List.length_map,List.take_length] at k
  obtain ⟨V,c,t⟩:=k.at_
  have i:=k.pre
  refine ⟨rfl,(jq (by decide) ?_:Zt _ _ _ _ _ _ _ _)⟩
  simp only[go_sem,c]
  have Q:SlOf d x 2 (a.map zz):=by
   obtain ⟨L,rfl,_⟩:=i
   exact f.app _
  refine zd (Zsa _ x V a (zT 0 v) Q t.rows ha (by omega)) ?_
  rintro _ h6 ⟨rfl,rfl⟩
  simp only[go_sem]
  refine qOa (Vc (by decide) ?_)
  simp only[go_sem]
  exact k4a (.inr ⟨D,id,rfl,by omega,E⟩) i (r:=spv (QZ a (zT 0 v))) (λ_=>rfl) (yj _) (by rw[u])
theorem Q6a (h:List Ob) (x:AV) (l:List Spn) (n:Int) (b:SlOf h x 2 (l.map zz)) (u:l.length<524288) (v:Fit n):
  ACalls Tryz.prog 284 [x,i64 n] h λr h'=>r=spv (yU l n)/\h'=h:=by
 refine ZU ?_
 refine zf Tryz.f284 [.tmp 4] 16 rfl rfl rfl rfl rfl rfl (by decide) (⟨_,_,⟨.inl rfl,rfl⟩,.refl⟩) λB=>?_
 simp only[go_sem]
 refine ways (λe=>?_) (λe=>?_)
 ·simp only[go_sem]
  exact ⟨_,rfl,.inl ⟨.inr ⟨rfl,by unfold yU;rw[if_pos (of_decide_eq_true e)];rfl⟩,rfl⟩⟩
 ·have a:¬ n<=0:=of_decide_eq_false e
  simp only[go_sem]
  refine zd (qKa _ x l b (by omega)) ?_
  rintro _ p ⟨rfl,rfl⟩
  have o:=XP (l:=zt l) (λs g=>jC s g)
  have f:=zq l
  obtain ⟨m,d⟩:∃m:Int,m=if 32054400<n then 32054400 else n:=⟨_,rfl⟩
  have c:m=min n 32054400:=by rw[d];split<;>omega
  have i:0<m/\m<=32054400:=by omega
  have k:IntKind.wrap .i64 (qf (zt l) - m)=qf (zt l) - m:=zF (n:=qf (zt l) - m) (by unfold Fit;omega)
  simp only[go_sem, <-d,k]
  refine zd (V2 _ x l _ b (by omega) (by unfold Fit;omega)) ?_
  rintro _ t ⟨rfl,rfl⟩
  simp only[go_sem]
  have j:(zC l (qf (zt l) - m)).length<=(zt l).length:=jd _ _
  refine zd (ZW _ x _ l (zC l (qf (zt l) - m)) b (qC _) (by omega) (by omega)) ?_
  rintro _ q ⟨rfl,rfl⟩
  simp only[go_sem]
  exact ⟨_,rfl,.inl ⟨.inl (by unfold yU;rw[if_neg a, <-c];rfl),rfl⟩⟩
end Go.Proofs.YtigdlmpjijhpaaaGreat.Ax
namespace Go.Proofs.YtigdlmpjijhpaaaGreat.Ax
open Go Go.Proofs Go.RowKit
set_option maxRecDepth 100000
attribute [go_sem] yGa yHa y3a QIa JQa yra Z7a Z8a ysa Z9a Qaa Qba Qca Qda Qea yta yua yva ywa yxa yya Qfa Qga Qha Qia Qja Qka Qla Qma Qna Qoa Qpa Qqa xQa xRa yza Qra Qsa Qta JAa Qua Qva yAa Qwa Qxa v3a xSa Qya Qza QAa yBa yCa v4a QBa v5a QCa xTa xPa yDa jla v6a QDa ty3 Z3a QEa QFa v7a yEa QGa JBa yFa JCa QHa y2a ty4 JDa Z4a JEa ty5 Z5a Z6a JFa JGa JHa JIa JJa v8a JKa JLa JMa JNa ty9 JOa JPa
theorem Ve (z:Array Value) (k:Nat):(Builtin.zeroCells z k).size=k*z.size:=by
 simp[Builtin.zeroCells]
theorem wIa:∃i z,Tryz.prog.info? 143=some i/\i.zero=some z/\i.size=2/\i.bytes=16/\z.cells.size=2:=by
 have h:(Tryz.prog.info? 143).map (λi=>(i.zero,i.size,i.bytes))=some (some (.agg #[.int .i64 0,.int .i64 0]),2,16):=by kernel_rfl
 cases a:Tryz.prog.info? 143 with
 | none=>rw[a] at h;cases h
 | some i=>
   rw[a] at h
   injection h with h
   injection h with h1 h2
   injection h2 with h2 h3
   exact ⟨i,_,rfl,h1,h2,h3,rfl⟩
set_option maxHeartbeats 1000000 in
theorem k5a (n:Nat) (w:World) (x:n<=1000000000000):Calls Tryz.prog 245 #[.slice none 0 0,.int .i64 (n:Int)] w λe w'=>∃v,e= .returned v/\Below w.heap.size w w'/\w'.ownsRow w.heap.size 143 2 v 0 []/\∀b,v.ownBlock=some b->w.heap.size<=b:=by
 by_cases h0:n=0
 ·subst h0
  go_enter Tryz.func245,Tryz.ntmps245
  go_wp2
  go_ret
  exact ⟨_,rfl,Below.refl _ _,World.ownsRow_nil _ _ _ _,λb a=>by cases a⟩
 ·obtain ⟨i,z,q,o,s,a,j⟩:=wIa
  have f:∀ty,(Builtin.append_ #[55,3] ty #[.slice none 0 0,.int .i64 (n:Int)]).run Tryz.prog w=
    .ok (.slice (some ⟨w.heap.size,0,none⟩) n (grownCap w n 0 143)) (w.drew.alloc (.cells (#[]++Builtin.zeroCells z.cells n++Builtin.zeroCells z.cells (grownCap w n 0 143 - n)) 143)):=λty=>by
   have h:=Lib.run_append_grow_zeros w 55 3 ty 143 i z .i64 .i64 Tryz.underlying55 Tryz.underlying3 q o none 0 0 [] (run_firstCells_none w.drew i.size 0 0 0) n (by omega) (by omega) (by omega) (by omega)
    (by rw[a];omega) (by rw[Nat.zero_add];exact growslice_fits (by omega) (by rw[a];omega))
   rw[Nat.zero_add] at h
   exact h
  have l:n<=grownCap w n 0 143:=grownCap_ge w _ _ _
  have c:=grownCap_le_maxLen w n 0 143 (by unfold maxLen;omega)
  obtain ⟨G,r⟩:∃G,G=grownCap w n 0 143:=⟨_,rfl⟩
  rw[<-r] at f l c
  obtain ⟨g,d⟩:∃g,g=(#[]++Builtin.zeroCells z.cells n++Builtin.zeroCells z.cells (G - n):Array Value):=⟨_,rfl⟩
  rw[<-d] at f
  have k:g.size=G*2:=by rw[d];simp only[Array.size_append,Ve,j];simp;omega
  have m:G<=9223372036854775807:=by unfold maxLen at c;omega
  have p:(0:Int)<(n:Int):=by omega
  have t:=Lib.hid (show (w.drew.alloc (.cells g 143)).ownsRow w.heap.size 143 2 (.slice (some ⟨w.heap.size,0,none⟩) 0 G) 0 [] from
   ⟨rfl,.inr ⟨w.heap.size,G,g,rfl,Nat.le_refl _,heap_alloc_new w.drew _,Nat.zero_le _,c,k,by simp⟩⟩)
  have u:=Lib.hid (show Below w.heap.size w (w.drew.alloc (.cells g 143)) from (show Below w.heap.size w w.drew from ⟨rfl,rfl,rfl,Nat.le_refl _,λ_ _=>rfl⟩).alloc (Nat.le_refl _) _)
  clear r d s a o q k c j
  go_enter Tryz.func245,Tryz.ntmps245
  go_wp2_with (at_builtin;refine Lib.wpList_append_run _ rfl _ _ _ _ rfl _ _ rfl rfl _ _ (f _) ?_)
  go_ret
  exact ⟨_,rfl,u.out,t.out,λb a=>by injection a with a;subst a;exact Nat.le_refl _⟩
theorem Q7a (h:List Ob) (n:Nat) (l:n<=1000000000000):ACalls Tryz.prog 245 [.v (.slice none 0 0),i64 n] h λr h'=>r= .tl h.length 0/\h'=h++[.row 143 2 [] 0]:=by
 refine ⟨rfl,⟨_,_,⟨rfl,rfl⟩,zW⟩,λφ p B w g vs q hB a=>?_⟩
 obtain ⟨u,A,rfl,f,z,o,rfl,b,c⟩:=a
 have f:u= .slice none 0 0:=f
 have b:z= .int .i64 (n:Int):=b
 have c:o=[]:=c
 subst f b c
 refine (k5a n w l).mono λe w' ⟨v,j,m,i,t⟩=>?_
 obtain ⟨k1,k2⟩:=yF q hB (ty:=143) (e:=2) (by decide) (xs:=[]) (λx k=>by cases k) 0 m ⟨i.1,i.2.imp id λ⟨g,cap,cur,y,s,r⟩=>⟨g,cap,cur,y,Nat.le_trans hB s,r⟩⟩ rfl t
 rw[qi] at k1 k2
 have d:fill φ (h++[.row 143 2 [] 0])=fill φ h++[.row 143 2 [] 0]:=jh p
 rw[<-d] at k1 k2
 exact ⟨v,_,_,_,j,⟨rfl,rfl⟩,zW,k1,k2⟩
theorem V4 (l:List Spn):((l.map zz).all λr=>r.length==2 && r.all AV.one)=true:=by
 rw[List.all_eq_true]
 intro r a
 obtain ⟨s,_,rfl⟩:=List.mem_map.1 a
 rfl
def vr (xs:List (AV × List Spn)):List Spn:=xs.flatMap (·.2)
theorem Vf {xs:List (AV × List Spn)} {k:Nat} (h:k<xs.length):vr (xs.take (k+1))=vr (xs.take k)++xs[k].2:=by
 unfold vr
 rw[<-List.take_append_getElem h,List.flatMap_append];simp
theorem qPa (xs:List (AV × List Spn)) (k:Nat):(vr (xs.take k)).length<=(vr xs).length:=by
 conv=>rhs;rw[<-List.take_append_drop k xs]
 simp only[vr,List.flatMap_append,List.length_append]
 omega
theorem k6a (h:List Ob) (p:AV) (xs:List (AV × List Spn)) (z:SlOf h p 1 (xs.map λq=>[q.1])) (G:∀q∈xs,SlOf h q.1 2 (q.2.map zz)) (M:xs.length<1048576) (K:(vr xs).length<1073741824):
  ACalls Tryz.prog 188 [p] h λr h'=>∃L,h'=h++L/\NoRes L/\New h 2 r ((vr xs).map zz) L:=by
 have hex:∃r h',(∃L,h'=h++L/\NoRes L/\New h 2 r ((vr xs).map zz) L)/\ResK h h':=
  ⟨.sl 2 _,_,⟨[],rfl,jN,λ_ _=>⟨rfl,λ_=>rfl⟩⟩,zW⟩
 have w:=z.rows
 refine zf Tryz.f188 [.tmp 2] 36 rfl rfl rfl rfl rfl rfl (by decide) (hex) λB=>?_
 simp only[go_sem,w,List.length_map]
 refine zk (by decide) (λm T h'=>∃i:Nat,i<=xs.length/\h'=h/\T 0=p/\T 3=i64 (vr (xs.take i)).length/\T 9=p/\T 10=i64 xs.length/\T 11=i64 i/\m=xs.length - i) xs.length
  ⟨0,by omega,rfl,by simp only[go_sem],by (simp only[go_sem]<;>rfl),by simp only[go_sem],by (simp only[go_sem]<;>rfl),by (simp only[go_sem]<;>rfl),rfl⟩ ?_
 rintro m T h' ⟨i,J,rfl,t0,t3,t9,t10,d,rfl⟩
 simp only[go_sem,t10,d]
 refine ways (λe=>?_) (λe=>?_)
 ·have b:=dlt e
  have c:(xs.map λq=>[q.1])[i]? =some [xs[i].1]:=by rw[List.getElem?_map,List.getElem?_eq_getElem b];rfl
  have j:(i:Int)<xs.length:=by omega
  have t:=G _ (List.getElem_mem b)
  have a:=Vf b
  have f:=qPa xs (i+1)
  obtain ⟨q,k⟩:∃q,q=xs[i]:=⟨_,rfl⟩
  rw[<-k] at c t a
  have o:=t.rows
  have u:=z.at (i:=i) (by rw[List.length_map];exact b)
  have l:=t.cells
  rw[a,List.length_append] at f
  have H:IntKind.wrap .i64 (((vr (xs.take i)).length:Int)+(q.2.length:Int))=((vr (xs.take (i+1))).length:Int):=by
   rw[a,List.length_append]
   exact (zF (n:=((vr (xs.take i)).length:Int)+(q.2.length:Int)) (by unfold Fit;omega)).trans (by omega)
  simp only[go_sem,t3,t9,d,u,c,w,j,l,o,H,List.length_map,Int.toNat_natCast,Int.natCast_nonneg]
  have I:decide (((vr (xs.take (i+1))).length:Int)<0)=false:=by rw[decide_eq_false_iff_not];omega
  simp only[go_sem,I,d]
  exact ⟨xs.length - (i+1),by omega,i+1,by omega,t0,rfl,t9,t10,zw (by omega) rfl,rfl⟩
 ·have E:=jk e
  have g:i=xs.length:=by omega
  subst g
  rw[List.take_length] at t3
  simp only[go_sem,t3]
  refine zd (Q7a _ (vr xs).length (by omega)) ?_
  rintro _ F ⟨rfl,rfl⟩
  have x:=(z.app [.row 143 2 [] 0]).rows
  simp only[go_sem,t0,x,List.length_map]
  refine zk (by decide) (λm T F=>∃(i st:Nat),i<=xs.length/\F=h'++[.row 143 2 ((vr (xs.take i)).map zz) st]/\T 6= .tl h'.length st/\T 25=p/\T 26=i64 xs.length/\T 27=i64 i/\m=xs.length - i) xs.length
   ⟨0,0,by omega,rfl,by simp only[go_sem],by simp only[go_sem],by (simp only[go_sem]<;>rfl),by (simp only[go_sem]<;>rfl),rfl⟩ ?_
  clear t0 t9 t10 t3 d
  rintro m T F ⟨i,st,J,rfl,t6,t25,y,A,rfl⟩
  simp only[go_sem,y,A]
  refine ways (λe=>?_) (λe=>?_)
  ·have b:=dlt e
   have c:(xs.map λq=>[q.1])[i]? =some [xs[i].1]:=by rw[List.getElem?_map,List.getElem?_eq_getElem b];rfl
   have j:(i:Int)<xs.length:=by omega
   have t:=G _ (List.getElem_mem b)
   have a:=Vf b
   have f:=qPa xs (i+1)
   obtain ⟨q,k⟩:∃q,q=xs[i]:=⟨_,rfl⟩
   rw[<-k] at c t a
   have v:=(z.app [.row 143 2 ((vr (xs.take i)).map zz) st]).rows
   have o:=(t.app [.row 143 2 ((vr (xs.take i)).map zz) st]).rows
   have l:=t.cells
   have u:=(z.app [.row 143 2 ((vr (xs.take i)).map zz) st]).at (i:=i) (by rw[List.length_map];exact b)
   have D:=V4 q.2
   rw[a,List.length_append] at f
   have C:((vr (xs.take i)).length+q.2.length)*17<=140737488355328:=by omega
   have s:(h'++[.row 143 2 ((vr (xs.take i)).map zz) st])[h'.length]? =some (.row 143 2 ((vr (xs.take i)).map zz) st):=by rw[zm rfl];rfl
   simp only[go_sem,t6,t25,A,u,D,c,v,j,l,o,C,s,List.length_map,Int.toNat_natCast,Int.natCast_nonneg]
   exact ⟨xs.length - (i+1),by omega,i+1,st+1,by omega,by rw[a,List.map_append],rfl,y,zw (by omega) rfl,rfl⟩
  ·have E:=jk e
   have g:i=xs.length:=by omega
   subst g
   simp only[go_sem,t6]
   exact ⟨_,rfl,.inl ⟨_,rfl,zj rfl,OwnS.new (h0:=h') (ty:=143) (.inr ⟨h'.length,st,Nat.le_refl _,rfl,by rw[List.take_length,zm rfl];rfl⟩) (Nat.le_refl _)⟩⟩
end Go.Proofs.YtigdlmpjijhpaaaGreat.Ax
namespace Go.Proofs.YtigdlmpjijhpaaaGreat.Ax
open Go Go.Proofs
set_option maxRecDepth 100000
theorem SIn.ones {h:List Ob} {s:Setup} {a:SA} (k:SIn h s a):AV.one a.w=true/\AV.one a.e=true/\AV.one a.c=true/\AV.one a.g=true/\AV.one a.r=true/\AV.one a.t=true:=⟨k.w.one,k.e.one,k.c.one,k.g.one,k.r.one,k.t.one⟩
structure Times (s:Setup):Prop where
 unit:1<=s.unit/\s.unit<=3600
 cap:60<=s.cap/\s.cap<=57600
 paidBreak:0<=s.paidBreak/\s.paidBreak<=86400
 autoAfter:0<=s.autoAfter/\s.autoAfter<=86400
 autoBreak:0<=s.autoBreak/\s.autoBreak<=86400
 nightFrom:0<=s.nightFrom/\s.nightFrom<=86400
 nightTo:0<=s.nightTo/\s.nightTo<=86400
 dayOver:0<=s.dayOver/\s.dayOver<=86400
 dayReg:0<=s.dayReg/\s.dayReg<=s.dayOver
 weekReg:0<=s.weekReg/\s.weekReg<=604800
theorem Q4 {s:Setup} (h:zE s=true):Times s:=by
 have h0:=wt h
 simp only[zE,xT,Bool.and_eq_true] at h
 have a:=h.1.2.1.1.2
 exact ⟨h0.1,h0.2,vT a (by simp),vT a (by simp),vT a (by simp),vT a (by simp),vT a (by simp),vT a (by simp),yS h.1.2.1.2,yS h.1.2.2⟩
def ZX (s:Setup):List Spn:=if s.nightTo<s.nightFrom then [⟨0,s.nightTo⟩,⟨s.nightFrom,86400⟩] else [⟨s.nightFrom,s.nightTo⟩]
theorem wPa {s:Setup} (t:Times s) {w:Spn} (h:w∈ZX s):(0<=w.from_/\w.from_<=86400)/\0<=w.to_/\w.to_<=86400:=by
 have a:=t.nightFrom
 have b:=t.nightTo
 unfold ZX at h
 split at h
 ·rcases List.mem_cons.1 h with rfl | h
  ·simp only;omega
  ·rw[List.mem_singleton] at h;subst h;simp only;omega
 ·rw[List.mem_singleton] at h;subst h;simp only;omega
theorem Yr (s:Setup):(ZX s).length<=2:=by unfold ZX;split<;>simp
theorem vha (h:List Ob) (s:Setup) (a:SA) (k:SIn h s a):
  ACalls Tryz.prog 191 [qj s a] h λr h'=>r=spv (ZX s)/\h'=h:=xE (by decide) (yj _) <| by
 have hex:∃r h',(∃L,h'=h++L/\NoRes L/\New h 2 r ((ZX s).map zz) L)/\ResK h h':=
  ⟨.sl 2 _,_,⟨[],rfl,jN,λ_ _=>⟨rfl,λ_=>rfl⟩⟩,zW⟩
 refine zf Tryz.f191 [.tmp 2] 21 rfl rfl rfl rfl rfl rfl (by decide) (hex) λB=>?_
 simp only[go_sem,k.ones]
 refine ways (λe=>?_) (λe=>?_)
 ·have b:ZX s=[⟨0,s.nightTo⟩,⟨s.nightFrom,86400⟩]:=by unfold ZX;rw[if_pos (of_decide_eq_true e)]
  rw[b]
  simp only[go_sem,k.ones]
  exact QB (ty:=143) (x:= .tl (h.length+1) 0) (by simp only[go_sem]) ⟨_,rfl,zg rfl (zj rfl)⟩ (.inr ⟨_,_,by omega,rfl,by rw[zl (k:=1) rfl];rfl⟩)
 ·have b:ZX s=[⟨s.nightFrom,s.nightTo⟩]:=by unfold ZX;rw[if_neg (of_decide_eq_false e)]
  rw[b]
  simp only[go_sem,k.ones]
  exact QB (ty:=143) (x:= .tl (h.length+1) 0) (by simp only[go_sem]) ⟨_,rfl,zg rfl (zj rfl)⟩ (.inr ⟨_,_,by omega,rfl,by rw[zl (k:=1) rfl];rfl⟩)
def y6 (s:Setup) (d:Int):List Spn:=((ZX s).filter λw=>decide (w.from_<w.to_)).map λw=>⟨d*86400+w.from_,d*86400+w.to_⟩
def vU (d:Int) (o:List Spn) (w:Spn):List Spn:=if w.from_<w.to_ then o++[⟨d*86400+w.from_,d*86400+w.to_⟩] else o
theorem Jz (d:Int):∀(l o:List Spn),l.foldl (vU d) o=o++(l.filter λw=>decide (w.from_<w.to_)).map λw=>⟨d*86400+w.from_,d*86400+w.to_⟩
 | [],o=>by simp
 | w::l,o=>by
   rw[List.foldl_cons,Jz d l,List.filter_cons]
   unfold vU
   by_cases h:w.from_<w.to_<;>simp[h]
theorem wQa (F:List (Nat × Ob)) (h0 h:List Ob) (b:List Spn) (i j:Nat) (s:Setup) (a:SA) (k:LIn F h0 h i 55 143 2 (b.map zz)) (ks:SIn h s a) (t:Times s) (hj:(j,Ob.box 30 (zr s a))∈F) (hl:b.length<1099511627776) (d:Int) (hd:0<=d/\d<371):
  ACalls Tryz.prog 190 [i64 d,.ptr j 0,.ptr i 0] h λr h'=>r= .tup []/\LIn F h0 h' i 55 143 2 ((b++y6 s d).map zz):=by
 have hex:∃r h',(r=AV.tup []/\LIn F h0 h' i 55 143 2 ((b++y6 s d).map zz))/\ResK h h':=by
  obtain ⟨h',q1,Z⟩:=k.any ((b++y6 s d).map zz)
  exact ⟨_,h',⟨rfl,q1⟩,Z⟩
 have P:h[j]? =some (.box 30 (zr s a)):=k.keep hj
 refine zf Tryz.f190 [] 33 rfl rfl rfl rfl rfl rfl (by decide) (hex) λB=>?_
 simp only[go_sem,P,ks.ones]
 refine zd (vha _ s a ks) ?_
 rintro _ h4 ⟨rfl,rfl⟩
 have A:b++y6 s d=((ZX s).take (ZX s).length).foldl (vU d) b:=by rw[List.take_length,Jz];rfl
 rw[A]
 have O:=Yr s
 have g:= @wPa s t
 obtain ⟨v,hv⟩:∃v,v=ZX s:=⟨_,rfl⟩
 rw[<-hv] at O g⊢
 obtain ⟨W,V⟩:∃W,W=(v.take v.length).foldl (vU d) b:=⟨_,rfl⟩
 rw[<-V]
 simp only[go_sem,List.length_map]
 refine zk (by decide) (λm T h'=>∃(n:Nat) (o:List Spn),n<=v.length/\o=(v.take n).foldl (vU d) b/\o.length<=b.length+n/\LIn F h0 h' i 55 143 2 (o.map zz)/\T 0=i64 d/\T 2= .ptr i 0/\T 7=spv v/\T 8=i64 v.length/\T 9=i64 n/\m=v.length - n) v.length
  ⟨0,b,by omega,rfl,by omega,k,by simp only[go_sem],by simp only[go_sem],by simp only[go_sem],by (simp only[go_sem]<;>rfl),by (simp only[go_sem]<;>rfl),rfl⟩ ?_
 rintro m T h' ⟨n,o,hn,K,γ,k',t0,t2,G,t8,t9,rfl⟩
 simp only[go_sem,t8,t9]
 refine ways (λe=>?_) (λe=>?_)
 ·have p:=dlt e
  have f:=yk p
  have I:(n:Int)<v.length:=by omega
  have hb:=g (List.getElem_mem p)
  have c:(v.take (n+1)).foldl (vU d) b=vU d o v[n]:=by rw[<-List.take_append_getElem p,List.foldl_append, <-K];rfl
  obtain ⟨z,Y⟩:∃z,z=v[n]:=⟨_,rfl⟩
  rw[<-Y] at f c hb
  have S:IntKind.wrap .i64 (d*86400)=d*86400:=zF (n:=d*86400) (by unfold Fit;omega)
  have U:IntKind.wrap .i64 (d*86400+z.from_)=d*86400+z.from_:=zF (n:=d*86400+z.from_) (by unfold Fit;omega)
  have R:IntKind.wrap .i64 (d*86400+z.to_)=d*86400+z.to_:=zF (n:=d*86400+z.to_) (by unfold Fit;omega)
  simp only[go_sem,G,t9,f,I,List.length_map,Int.toNat_natCast,Int.natCast_nonneg]
  refine ways (λl=>?_) (λl=>?_)
  ·have l:=of_decide_eq_true l
   have u:vU d o z=o++[⟨d*86400+z.from_,d*86400+z.to_⟩]:=by unfold vU;rw[if_pos l]
   obtain ⟨x,Q,L⟩:=k'.at_
   have w:∀M,(h'++M)[i]? =some (.box 55 [x]):=λM=>zb Q
   have C:(o.length+1)*17<=140737488355328:=by omega
   rcases L with ⟨rfl,y⟩ | ⟨id,st,u1,rfl,E⟩
   ·simp only[go_sem,t0,t2,t9,w,S,U,R]
    refine ⟨v.length - (n+1),by omega,n+1,_,by omega,c.symm,by rw[u];simp;omega,?_,G,t8,zw (by omega) rfl,rfl⟩
    rw[u,List.map_append,y]
    exact k'.push_nil (zg rfl (zg rfl (zj rfl))) (by omega) (by rw[zl (k:=2) rfl];rfl)
   ·have N:∀M,(h'++M)[id]? =some (.row 143 2 (o.map zz) st):=λM=>zb E
    have J:id≠i:=λq=>by rw[q,Q] at E;cases E
    have D:∀M o',((h'++M).set id o')[i]? =some (.box 55 [.tl id st]):=λM o'=>by
     rw[List.getElem?_set_ne J];exact w M
    simp only[go_sem,t0,t2,t9,w,N,D,C,S,U,R,List.length_map]
    refine ⟨v.length - (n+1),by omega,n+1,_,by omega,c.symm,by rw[u];simp;omega,?_,G,t8,zw (by omega) rfl,rfl⟩
    rw[u,List.map_append]
    exact k'.push_own (zg rfl (zj rfl)) u1 E
  ·have l:=of_decide_eq_false l
   have u:vU d o z=o:=by unfold vU;rw[if_neg l]
   simp only[go_sem,t9]
   exact ⟨v.length - (n+1),by omega,n+1,_,by omega,c.symm,by rw[u];omega,by rw[u];exact k'.app (zj rfl),t0,t2,G,t8,zw (by omega) rfl,rfl⟩
 ·have X:=jk e
  have H:n=v.length:=by omega
  subst H
  rw[<-V] at K
  subst K
  simp only[go_sem]
  exact ⟨_,rfl,.inl ⟨rfl,k'⟩⟩
theorem via {o:List Int} {d:Int} (f:o.Pairwise (· < ·)) (h:∀x∈o,0<=x/\x<371) (g:0<=d/\d<371):(yl o d).Pairwise (· < ·)/\∀x∈yl o d,0<=x/\x<371:=by
 unfold yl
 cases k:o.getLast? with
 | none=>
   refine ⟨by simp,λx c=>?_⟩
   have c:x=d:=by simpa using c
   subst c;exact g
 | some z=>
   simp only
   split
   ·rename_i l
    obtain ⟨q,rfl⟩:∃q,o=q++[z]:=by
     obtain ⟨q,j⟩:=List.getLast?_eq_some_iff.1 k
     exact ⟨q,j⟩
    refine ⟨?_,λx c=>?_⟩
    ·rw[List.pairwise_append]
     refine ⟨f,by simp,λa e b i=>?_⟩
     rw[List.mem_singleton] at i
     subst i
     rw[List.pairwise_append] at f
     rcases List.mem_append.1 e with e | e
     ·have:=f.2.2 a e z (by simp);omega
     ·rw[List.mem_singleton] at e;omega
    ·rcases List.mem_append.1 c with c | c
     ·exact h x c
     ·rw[List.mem_singleton] at c;subst c;exact g
   ·exact ⟨f,h⟩
theorem Ys {o:List Int} {a:Int} (c:o.Pairwise (· < ·)) (b:∀x∈o,0<=x/\x<371) (f:0<=a):∀k:Nat,a+k<=371->(ZV o a k).Pairwise (· < ·)/\∀x∈ZV o a k,0<=x/\x<371
 | 0,_=>⟨c,b⟩
 | k+1,h=>by
   obtain ⟨e,d⟩:=Ys c b f k (by omega)
   exact via e d (by omega)
theorem jU (l:List Spn):(zD l).Pairwise (· < ·)/\∀x∈zD l,0<=x/\x<371:=by
 have key:∀(v:List Spn) (o:List Int),o.Pairwise (· < ·)->(∀x∈o,0<=x/\x<371)->(v.foldl jx o).Pairwise (· < ·)/\∀x∈v.foldl jx o,0<=x/\x<371:=λv=>by
  induction v with
  | nil=>exact λo b a=>⟨b,a⟩
  | cons s v c=>
    intro o b a
    rw[List.foldl_cons]
    have d:=kA s.from_
    have e:=kA (s.to_ - 1)
    have:=Ys b a d.1 (qx (s.to_ - 1) - qx s.from_+1).toNat (by omega)
    exact c _ this.1 this.2
 exact key _ [] .nil (by simp)
theorem wRa {o:List Int} (e:o.Pairwise (· < ·)) (c:∀x∈o,0<=x/\x<371):o.length<=371:=by
 have d:o.Nodup:=e.imp λh=>by omega
 have:=Zn (b:=(List.range 371).map λ(k:Nat)=>(k:Int)) d λx a=>by
  have:=c x a
  exact List.mem_map.2 ⟨x.toNat,by rw[List.mem_range];omega,by omega⟩
 simpa using this
theorem kT (l:List Spn):(zD l).length<=371:=wRa (jU l).1 (jU l).2
def xo (s:Setup) (l:List Int):List Spn:=l.flatMap (y6 s)
def qc (s:Setup) (l:List Spn):List Spn:=if zE s then QZ l (xo s (zD l)) else []
theorem zZa (s:Setup) (d:Int):(y6 s d).length<=2:=by
 unfold y6
 rw[List.length_map]
 have a:=List.length_filter_le (λw:Spn=>decide (w.from_<w.to_)) (ZX s)
 have b:=Yr s
 omega
theorem yn (s:Setup):∀l:List Int,(xo s l).length<=2*l.length
 | []=>by simp[xo]
 | d::l=>by
   have a:=yn s l
   have b:=zZa s d
   unfold xo at a⊢
   rw[List.flatMap_cons,List.length_append,List.length_cons];omega
theorem QC {l:List Int} {i:Nat} (h:i<l.length):(l.map zJ)[i]? =some [i64 l[i]]:=by rw[List.getElem?_map,List.getElem?_eq_getElem h];rfl
theorem wSa (h:List Ob) (s:Setup) (a:SA) (k:SIn h s a) (f:SFit s) (x:AV) (l:List Spn) (J:SlOf h x 2 (l.map zz)) (N:l.length<1048576):
  ACalls Tryz.prog 118 [qj s a,x] h λr h'=>(r=spv (qc s l)∨r= .v (.slice none 0 0)/\qc s l=[])/\h'=h:=by
 have hex:∃r h',((r=spv (qc s l)∨r=AV.v (.slice none 0 0)/\qc s l=[])/\h'=h)/\ResK h h':=⟨_,_,⟨.inl rfl,rfl⟩,.refl⟩
 refine zf Tryz.f118 [.tmp 4] 30 rfl rfl rfl rfl rfl rfl (by decide) (hex) λB=>?_
 simp only[go_sem,k.ones]
 refine zd (c16 _ s a (k.app _) f) ?_
 rintro _ M ⟨rfl,K⟩
 rw[K]
 clear K M
 cases u:zE s
 ·have j:qc s l=[]:=by unfold qc;rw[u];rfl
  simp only[go_sem,u,zL,Bool.not_false]
  exact ⟨_,by simp only[go_sem],.inr ⟨h,_,rfl,rfl,rfl,.refl,.inr ⟨rfl,j⟩,rfl⟩⟩
 have j:qc s l=QZ l (xo s (zD l)):=by unfold qc;rw[if_pos u]
 have U:=Q4 u
 simp only[go_sem,u,zL,Bool.not_true]
 refine zd (kWa _ x l (J.app _) N) ?_
 rintro _ M ⟨rfl,rfl⟩
 have i:=(jU l).2
 have G:=kT l
 have c:xo s (zD l)=xo s ((zD l).take (zD l).length):=by rw[List.take_length]
 have w:=yn s (zD l)
 rw[c] at j
 rw[c] at w
 obtain ⟨v,W⟩:∃v,v=zD l:=⟨_,rfl⟩
 rw[<-W] at i G j w⊢
 simp only[go_sem,List.length_map]
 obtain ⟨F,I⟩:∃F,F=[(h.length,Ob.box 30 (zr s a))]:=⟨_,rfl⟩
 have q:(h.length,Ob.box 30 (zr s a))∈F:=by rw[I];simp
 refine zk (by decide) (λm T h'=>∃n:Nat,n<=v.length/\LIn F h h' (h.length+1) 55 143 2 ((xo s (v.take n)).map zz)/\T 1=x/\T 5= .ptr (h.length+1) 0/\T 6= .fn (.func 190) [] [.ptr h.length 0,.ptr (h.length+1) 0]/\T 7= .sl 1 (v.map zJ)/\T 16=i64 v.length/\T 17=i64 n/\m=v.length - n) v.length
  ⟨0,by omega,⟨⟨_,rfl,zg rfl (zj rfl)⟩,by omega,(λz y=>by rw[I,List.mem_singleton] at y;subst y;exact ⟨by simp,⟨_,_,rfl⟩,by rw[zm rfl];rfl⟩),_,by rw[zl (k:=1) rfl];rfl,.inl ⟨rfl,rfl⟩⟩,by simp only[go_sem],by simp only[go_sem],by simp only[go_sem],by simp only[go_sem],by (simp only[go_sem]<;>rfl),by (simp only[go_sem]<;>rfl),rfl⟩ ?_
 rintro m T h' ⟨n,R,o,t1,t5,t6,P,p,d,rfl⟩
 simp only[go_sem,p,d]
 refine ways (λe=>?_) (λe=>?_)
 ·have g:=dlt e
  have b:=QC g
  have D:(n:Int)<v.length:=by omega
  have O:=i _ (List.getElem_mem g)
  have t:xo s (v.take (n+1))=xo s (v.take n)++y6 s v[n]:=by unfold xo;rw[<-List.take_append_getElem g,List.flatMap_append];simp
  have H:=yn s (v.take n)
  rw[List.length_take] at H
  obtain ⟨z,y⟩:∃z,z=v[n]:=⟨_,rfl⟩
  rw[<-y] at b t O
  simp only[go_sem,t6,P,d,b,D,List.length_map,Int.toNat_natCast,Int.natCast_nonneg]
  refine zd (wQa F h h' _ (h.length+1) h.length s a o (o.pre.sin k) U q (by omega) z O) ?_
  rintro _ S ⟨rfl,k6⟩
  rw[<-t] at k6
  simp only[go_sem,d]
  exact ⟨v.length - (n+1),by omega,n+1,by omega,k6,t1,t5,t6,P,p,zw (by omega) rfl,rfl⟩
 ·have Q:=jk e
  have A:n=v.length:=by omega
  subst A
  obtain ⟨X,C,E⟩:=o.at_
  simp only[go_sem,t1,t5,C]
  refine zd (Zsa _ x X l _ (o.pre.sl J) E.rows N (by omega)) ?_
  rintro _ S ⟨rfl,rfl⟩
  rw[<-j]
  simp only[go_sem]
  obtain ⟨L,V,_⟩:=o.pre
  rw[V]
  exact ⟨_,by simp only[go_sem],.inr ⟨h,_,rfl,rfl,yV _,.refl,.inl rfl,rfl⟩⟩
theorem ZHa (h:List Ob) (s:Setup) (a:SA) (k:SIn h s a) (f:SFit s) (x:AV) (l:List Spn) (b:SlOf h x 2 (l.map zz)) (c:l.length<1048576):
  ACalls Tryz.prog 118 [qj s a,x] h λr h'=>r=spv (qc s l)/\h'=h:=
 ZU ((wSa h s a k f x l b c).mono λr h' ⟨q,e⟩=>⟨q.imp_right λq=>⟨q.1,by rw[q.2];rfl⟩,e⟩)
end Go.Proofs.YtigdlmpjijhpaaaGreat.Ax
