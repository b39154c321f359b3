import Derived.Test.YtigdlmpjijhpaaaGreatKA
import Derived.Test.YtigdlmpjijhpaaaGreatK02
import Derived.Tactics
import Derived.RangeFuncNested
import Derived.RangeFuncCalls
import Derived.TacticsIn
set_option linter.all false
namespace Go.Proofs.YtigdlmpjijhpaaaGreat.Ax
open Go Go.RowKit
abbrev Env:=Nat->AV
def upd(T:Env)(d:Nat)(x:AV):Env:=λi=>if i=d then x else T i
def jb(T:Env)(d:Option Nat)(x:AV):Env:=match d with
 | some d=>upd T d x
 | none=>T
abbrev xR:=Exit->Env->List Ob->Prop
structure Bs where
 b:Nat
 ds:List Deferred
structure Rel (N:Nat) (B:Bs) (w:World) (g:Gh) (h:List Ob) (a:Act) (T:Env):Prop where
 ok:HOk B.b w g h
 hB:B.b<=w.heap.size
 t:wT (ctx w g h) T a
 d:a.defers=B.ds
 n:a.tmps.size=N
def Yq(P:Program)(f:FuncId):Bool:=match P.funcs[f]? with
 | some fn=>fn.name != "runtime.NumGoroutine" && fn.body.isSome
 | none=>false
def Aft(N:Nat)(B:Bs)(φ:Nat->Ob)(w:World)(g:Gh)(h:List Ob)(a:Env)(h':List Ob)(c:Act)(w':World):Prop:=
 ∃g',ResK h h'/\Rel N B w' g' (fill φ h') c a/\Good B.b w g (fill φ h) w' g' (fill φ h')
theorem Zz{B:Nat}{φ:Nat->Ob}{w w':World}{g g':Gh}{h h':List Ob}(k:Good B w g (fill φ h) w' g' (fill φ h')):h.length<=h'.length:=by
 have:=k.le.n;simpa [ctx,ju] using this
theorem Aft.len{N:Nat}{B:Bs}{φ:Nat->Ob}{w w':World}{g:Gh}{h h':List Ob}{a:Env}{b:Act}(k:Aft N B φ w g h a h' b w'):h.length<=h'.length:=by
 obtain⟨g',_,_,k⟩:=k;exact Zz k
theorem Aft.refl{N:Nat}{B:Bs}{φ:Nat->Ob}{w:World}{g:Gh}{h:List Ob}{T:Env}{a:Act}(r:Rel N B w g (fill φ h) a T):Aft N B φ w g h T h a w:=⟨g,.refl,r,Good.refl r.ok r.hB⟩
def ACalls(P:Program)(f:FuncId)(aZ:List AV)(h:List Ob)(R:AV->List Ob->Prop):Prop:=
 Yq P f=true/\(∃r h',R r h'/\ResK h h')/\∀(φ:Nat->Ob),Upto φ h.length->∀(B:Nat) (w:World) (g:Gh) (vs:List Value),HOk B w g (fill φ h)->B<=w.heap.size->ARs (ctx w g (fill φ h)) aZ vs->
  Calls P f vs.toArray w λe w'=>∃v r h' g',e= .returned v/\R r h'/\ResK h h'/\Good B w g (fill φ h) w' g' (fill φ h')/\AR (ctx w' g' (fill φ h')) r v
theorem ACalls.mono{P:Program}{f:FuncId}{aZ:List AV}{h:List Ob}{R a:AV->List Ob->Prop}(c:ACalls P f aZ h R)(b:∀r h',R r h'->a r h'):ACalls P f aZ h a:=
 ⟨c.1,let ⟨r,h',q1,q2⟩:=c.2.1;⟨r,h',b _ _ q1,q2⟩,λφ d B w g vs n i l=>(c.2.2 φ d B w g vs n i l).mono λe w' ⟨v,r,h',g',m,j,k⟩=>⟨v,r,h',g',m,b _ _ j,k⟩⟩
def AWp(P:Program)(N:Nat)(B:Bs)(c:Code)(Q:xR)(T:Env)(h:List Ob):Prop:=
 ∀(φ:Nat->Ob),Upto φ h.length->∀(w:World) (g:Gh) (a:Act),Rel N B w g (fill φ h) a T->c.wp P (λe d w'=>∃b h',Q e b h'/\Aft N B φ w g h b h' d w') a w
section
variable {P:Program} {N:Nat} {B:Bs} {Q Q':xR} {T:Env} {h:List Ob} {c c':Code}
theorem AWp.mono(k:AWp P N B c Q T h)(i:∀e T h,Q e T h->Q' e T h):AWp P N B c Q' T h:=
 λφ d w g a r=>wp_mono (k φ d w g a r) λ_ _ _ ⟨b,h',j,f⟩=>⟨b,h',i _ _ _ j,f⟩
theorem Aft.trans{φ:Nat->Ob}{w w' w'':World}{g g':Gh}{h h' h'':List Ob}{c:Env}{a:Act}(f:ResK h h')(k:Good B.b w g (fill φ h) w' g' (fill φ h'))(b:Aft N B φ w' g' h' c h'' a w''):Aft N B φ w g h c h'' a w'':=by
 obtain⟨e,i,j,d⟩:=b
 exact⟨e,f.trans i,j,k.trans d⟩
theorem K5a{b:Env}{h':List Ob}(k:AWp P N B c Q b h')(j:∀(φ:Nat->Ob),Upto φ h.length->∀w g a,Rel N B w g (fill φ h) a T->Aft N B φ w g h b h' a w):AWp P N B c Q T h:=λφ d w g a r=>by
 have e:=j φ d w g a r
 have o:=e.len
 obtain⟨g',q,l,k'⟩:=e
 exact wp_mono (k φ (d.mono o) w g' a l) λ_ _ _ ⟨m,f,n,i⟩=>⟨m,f,n,i.trans q k'⟩
theorem WY{e:Exit}(c:Q e T h){φ:Nat->Ob}{w:World}{g:Gh}{a:Act}(r:Rel N B w g (fill φ h) a T):∃b h',Q e b h'/\Aft N B φ w g h b h' a w:=
 ⟨T,h,c,.refl r⟩
theorem Jka(a:Q .normal T h):AWp P N B .skip Q T h:=λ_ _ _ _ _ r=>wp_skip (WY a r)
theorem Zta{l:Nat}(a:Q .normal T h):AWp P N B (.label l) Q T h:=λ_ _ _ _ _ r=>wp_label (WY a r)
theorem Jla{id:Nat}(a:Q (.exit id) T h):AWp P N B (.exit id) Q T h:=λ_ _ _ _ _ r=>wp_exit (WY a r)
theorem jya(a:Q .ret T h):AWp P N B .ret Q T h:=λ_ _ _ _ _ r=>wp_ret (WY a r)
def yQ(next:Env->List Ob->Prop)(Q:xR):xR
 | .normal,T,h=>next T h
 | e,T,h=>Q e T h
def QX(id:Nat)(Q:xR):xR
 | .exit i,T,h=>if i=id then Q .normal T h else Q (.exit i) T h
 | e,T,h=>Q e T h
theorem Z5(k:AWp P N B c (yQ (AWp P N B c' Q) Q) T h):AWp P N B (.seq c c') Q T h:=λφ d w g a r=>by
 refine wp_seq (wp_mono (k φ d w g a r) λe n w' ⟨i,h',f,b⟩=>?_)
 have o:=b.len
 cases e<;>first
  | (obtain⟨g',q,s,j⟩:=b;exact wp_mono (f φ (d.mono o) w' g' n s) λ_ _ _ ⟨m,l,t,p⟩=>⟨m,l,t,p.trans q j⟩)
  | exact⟨i,h',f,b⟩
theorem Jma{x:Operand}{t:Bool}(d:ev T x= .v (.bool t))(k1:t=true->AWp P N B c Q T h)(k2:t=false->AWp P N B c' Q T h):AWp P N B (.cond x c c') Q T h:=λφ b w g a r=>
 wp_cond_split (Zi r.t d) (λe=>k1 e φ b w g a r) (λe=>k2 e φ b w g a r)
theorem VD{id:Nat}(k:AWp P N B c (QX id Q) T h):AWp P N B (.block id c) Q T h:=λφ j w g a r=>by
 refine wp_block (wp_mono (k φ j w g a r) λe l w' ⟨d,h',b,f⟩=>?_)
 cases e with
 | exit i=>
   simp only[QX] at b
   simp only[Exit.inBlock]
   split
   ·rename_i hi;rw[if_pos hi] at b;exact⟨d,h',b,f⟩
   ·rename_i hi;rw[if_neg hi] at b;exact⟨d,h',b,f⟩
 | _=>exact⟨d,h',b,f⟩
theorem least{J:Nat->Prop}(e:∃n,J n):∃n,J n/\∀m,J m->n<=m:=by
 obtain⟨n,d⟩:=e
 induction n using Nat.strongRecOn with
 | _ n c=>
   by_cases b:∃m,m<n/\J m
   ·obtain⟨m,g,f⟩:=b
    exact c m g f
   ·exact⟨n,d,λm h=>Nat.le_of_not_lt λa=>b ⟨m,a,h⟩⟩
theorem xHa(I:Nat->Env->List Ob->Prop)(n:Nat)(h0:I n T h)
  (round:∀n T h,I n T h->AWp P N B c (yQ (λd h'=>∃n',n'<n/\I n' d h') Q) T h):AWp P N B (.loop c) Q T h:=λφ H w g a r=>by
 let J:Nat->Act->World->Prop:=λn b w'=>∃d h',I n d h'/\Aft N B φ w g h d h' b w'
 let x:Act->World->Prop:=λb w'=>∃n,J n b w'
 have j:x a w:=⟨n,T,h,h0,.refl r⟩
 classical
 let μ:Act->World->Nat:=λb w'=>if e:∃n,J n b w' then Classical.choose (least e) else 0
 have t:∀b w' (e:∃n,J n b w'),J (μ b w') b w'/\∀m,J m b w'->μ b w'<=m:=λb w' e=>by
  have:μ b w'=Classical.choose (least e):=dif_pos e
  rw[this]
  exact Classical.choose_spec (least e)
 refine wp_loop x μ j λa1 v E=>?_
 obtain⟨F,A,K,u⟩:=(t a1 v E).1
 have C:=u.len
 obtain⟨G,y,z,D⟩:=u
 refine wp_mono (round _ F A K φ (H.mono C) v G a1 z) λe a2 q ⟨o,s,p,f⟩=>?_
 have f:=f.trans y D
 cases e with
 | normal=>
   obtain⟨n',i,l⟩:=p
   have k:J n' a2 q:=⟨o,s,l,f⟩
   exact⟨⟨n',k⟩,Nat.lt_of_le_of_lt ((t a2 q ⟨n',k⟩).2 n' k) i⟩
 | _=>exact⟨o,s,p,f⟩
end
def Zj(T:Env)(c:Call):Option (FuncId × List AV):=match c.callee with
 | .value x=>match ev T x with
   | .fn (.func f) a cs=>some (f,a++evl T c.args.toList++cs)
   | _=>none
 | _=>none
def yk(P:Program)(T:Env)(h:List Ob)(o:Oper)(K:Env->List Ob->Prop):Prop:=
 match qf P T h o.op with
 | some (x,h')=>K (jb T o.dst x) h'
 | none=>match o.op with
   | .call c=>match Zj T c with
     | some (f,aZ)=>ACalls P f aZ h λr h'=>K (jb T o.dst r) h'
     | none=>False
   | _=>False
def yK(T:Env)(o:Op):Option (Nat × List AV):=match o with
 | .call c=>match c.callee with
   | .value x=>match ev T x with
     | .v (.func (.yield l) a cs)=>if a.isEmpty && cs.isEmpty then some (l,evl T c.args.toList) else none
     | _=>none
   | _=>none
 | _=>none
def Yr(P:Program)(l:Nat)(aZ:List AV)(h:List Ob)(R:List Ob->Prop):Prop:=
 ∀ (φ:Nat->Ob),Upto φ h.length->∀(B:Nat) (w:World) (g:Gh) (vs:List Value),HOk B w g (fill φ h)->B<=w.heap.size->ARs (ctx w g (fill φ h)) aZ vs->
   ∃fn tmps assign body,(Instr.yield l vs.toArray).run P w= .ok (.round l fn tmps assign body) w/\∀m,RoundIn Fence.wide m P l fn tmps assign body w λe w'=>∃h' g',e= .returned (.bool true)/\R h'/\ResK h h'/\Good B w g (fill φ h) w' g' (fill φ h')
def Ys(P:Program)(T:Env)(h:List Ob)(o:Oper)(K:Env->List Ob->Prop):Prop:=match yK T o.op with
 | some (l,aZ)=>Yr P l aZ h λh'=>K (jb T o.dst (.v (.bool true))) h'
 | none=>yk P T h o K
def vu(N:Nat)(o:Oper):Bool:=match o.dst with
 | some d=>decide (d<N)
 | none=>true
def wpA(P:Program)(ops:Array Oper)(Q:Env->List Ob->Prop):List Oper->Env->List Ob->Prop
 | [],T,h=>Q T h
 | o::r,T,h=>match o.guard with
   | none=>Ys P T h o (wpA P ops Q r)
   | some (j,want)=>match (ops[j]?).bind (·.dst) with
     | some d=>match T d with
       | .v (.bool b)=>(b=want->Ys P T h o (wpA P ops Q r))/\(b≠want->wpA P ops Q r (jb T o.dst (.v undef)) h)
       | .v (.tuple _)=>wpA P ops Q r (jb T o.dst (.v undef)) h
       | _=>False
     | none=>False
section
variable {P:Program} {N:Nat} {B:Bs} {T:Env} {h:List Ob}
theorem yla{c:Ctx}{a:Act}{d:Nat}{x:AV}{v:Value}(f:wT c T a)(b:AR c x v)(g:d<a.tmps.size):wT c (upd T d x) { a with tmps:=a.tmps.setIfInBounds d v }:=λi=>by
 simp only[upd,zU]
 split
 ·rename_i e
  subst e
  simpa [Array.getElem?_setIfInBounds,g] using b
 ·rename_i e
  have:=f i
  rw[zU] at this
  rw[Array.getElem?_setIfInBounds_ne (λh=>e h.symm)]
  exact this
theorem wU{w w':World}{g g':Gh}{h':List Ob}{a:Act}{o:Oper}{x:AV}{v:Value}(r:Rel N B w g h a T)(k:Good B.b w g h w' g' h')(j:AR (ctx w' g' h') x v)(c:vu N o=true):Rel N B w' g' h' (a.put o.dst v) (jb T o.dst x):=by
 have f:wT (ctx w' g' h') T a:=λi=>AR.le k.le _ _ (r.t i)
 cases e:o.dst with
 | none=>exact⟨k.ok,k.size,f,r.d,r.n⟩
 | some d=>
   simp only[vu,e,decide_eq_true_eq] at c
   exact⟨k.ok,k.size,yla f j (by rw[r.n];exact c),r.d,by simp[Act.put,r.n]⟩
theorem Kc{φ:Nat->Ob}(J:Upto φ h.length){o:Oper}{K:Env->List Ob->Prop}(u:vu N o=true)(k:yk P T h o K){Q:Exit->Act->World->Prop}{w:World}{g:Gh}{a:Act}(r:Rel N B w g (fill φ h) a T)
  {next:Act->World->Prop} (A:∀F h' w' G,K F h'->Aft N B φ w g h F h' G w'->next G w'):o.wp P a w next Q:=by
 unfold yk at k
 unfold Oper.wp
 split at k
 ·rename_i x h' s
  obtain⟨z,n⟩:=Z4 J _ s
  obtain⟨nx,v,w',g',y,C,m,D⟩:=jwa r.ok r.hB r.t o z
  rw[y]
  rcases C with rfl|⟨rfl,rfl⟩
  ·exact A _ _ _ _ k ⟨g',n,wU r m D u,m⟩
  ·exact A _ _ _ _ k ⟨g',n,wU r m D u,m⟩
 ·split at k
  ·rename_i c I
   split at k
   ·rename_i f aZ d
    obtain⟨k1,_,k2⟩:=k
    unfold Zj at d
    split at d
    ·rename_i X q
     split at d
     ·rename_i H Z cs U
      injection d with d
      injection d with ht1 ht2
      subst ht1 ht2
      have s:=jV r.t X
      rw[U] at s
      obtain⟨us,vs,y,C,m⟩:=s
      have l:ARs (ctx w g (fill φ h)) (Z++evl T c.args.toList++cs) (us.toList++c.args.toList.map a.eval++vs.toList):=vQ (vQ C (X8 r.t _)) m
      have i:=k2 φ J B.b w g _ r.ok r.hB l
      have j:∃fn,P.funcs[H]? =some fn/\fn.name≠ "runtime.NumGoroutine" /\fn.body.isSome=true:=by
       unfold Yq at k1
       split at k1
       ·rename_i fn j
        simp only[zq,bne_iff_ne,ne_eq] at k1
        exact⟨fn,j,k1.1,k1.2⟩
       ·cases k1
      obtain⟨fn,V,L,M⟩:=j
      have f5:(fn.name== "runtime.NumGoroutine")=false:=by simpa using L
      have R:fn.body.isNone=false:=by cases Y:fn.body<;>simp[Y] at M⊢
      have p:(execOp a.eval o).run P w= .ok (.enter H (us.toList++c.args.toList.map a.eval++vs.toList).toArray) w:=by
       obtain⟨dst,op,type,pos,after,guard⟩:=o
       simp only at I
       subst I
       simp only[execOp,resolve,q,y,Deferred.ofValue,Sem.run_bind,Sem.run_pure,Result.andThen_ok,invoke,callFunc,run_program,V,R,f5,Bool.false_eq_true,if_false]
       simp
      rw[p]
      refine Calls.mono i λe w' ⟨v,rr,h',g',q1,W,S,E,O⟩=>?_
      subst q1
      exact A _ _ _ _ W ⟨g',S,wU r E O u,E⟩
     ·cases d
    ·cases d
   ·exact k.elim
  ·exact k.elim
theorem Qs(n:Nat){o:Oper}{a:Act}{w:World}{K:Act->World->Prop}{Q:Exit->Act->World->Prop}(h:o.wp P a w K Q):o.wpIn Fence.wide n P a w K Q:=by
 unfold Oper.wp at h
 unfold Oper.wpIn
 refine⟨λ_ _=>trivial,?_⟩
 show o.uponIn Fence.wide n P a K Q ((execOp a.eval o).run P w)
 generalize (execOp a.eval o).run P w=r at h⊢
 have b:∀row args w' (R:Value->World->Prop),Rows P row args w' R->RowsIn Fence.wide (n - 1) P row args w' R:=λrow args w' R h c cs _=>by
  obtain⟨v,e,g,f⟩:=h c cs
  exact⟨v,e,g,stepsIn_wide.2 f⟩
 cases r with
 | ok x w'=>
   cases x<;>first|exact h|exact h.elim|exact⟨λd=>(by cases d),callsIn_wide.2 h⟩|exact⟨λd=>(by cases d),b _ _ _ _ h⟩
 | halt x w'=>
   cases x<;>first|exact h|exact h.elim
theorem Yt{φ:Nat->Ob}(n:Nat)(D:Upto φ h.length){o:Oper}{K:Env->List Ob->Prop}(v:vu N o=true)(k:Ys P T h o K){Q:Exit->Act->World->Prop}{w:World}{g:Gh}{a:Act}(r:Rel N B w g (fill φ h) a T)
  {next:Act->World->Prop} (p:∀y h' w' A,K y h'->Aft N B φ w g h y h' A w'->next A w'):o.wpIn Fence.wide n P a w next Q:=by
 unfold Ys at k
 cases d:yK T o.op with
 | none=>rw[d] at k;exact Qs n (Kc D v k r p)
 | some q=>
   obtain⟨l,ar⟩:=q
   rw[d] at k
   simp only at k
   unfold yK at d
   split at d
   ·rename_i c C
    split at d
    ·rename_i X j
     split at d
     ·rename_i l' E cs G
      split at d
      ·rename_i f
       injection d with d
       injection d with hy1 hy2
       subst hy1 hy2
       rw[zq] at f
       have m:=jV r.t X
       rw[G] at m
       have m:a.eval X= .func (.yield l') E cs:=m
       have s:E= #[]:=by simpa using f.1
       have u:cs= #[]:=by simpa using f.2
       subst s u
       obtain⟨fn,tmps,assign,body,x,I⟩:=k φ D B.b w g _ r.ok r.hB (X8 r.t c.args.toList)
       have i:(execOp a.eval o).run P w= .ok (.round l' fn tmps assign body) w:=by
        obtain⟨dst,op,type,pos,after,guard⟩:=o
        simp only at C
        subst C
        simp only[execOp,resolve,j,m,Deferred.ofValue,Sem.run_bind,Sem.run_pure,Result.andThen_ok,invoke]
        rw[<-Array.toList_map,Array.toArray_toList] at x
        simpa using x
       unfold Oper.wpIn
       refine⟨λ_ _=>trivial,?_⟩
       show o.uponIn Fence.wide n P a next Q ((execOp a.eval o).run P w)
       rw[i,Oper.uponIn_round]
       refine⟨λp=>(by cases p),(I _).mono λe w' ⟨h',g',J,H,F,z⟩=>?_⟩
       subst J
       exact p _ _ _ _ H ⟨g',F,wU r z rfl v,z⟩
      ·cases d
     ·cases d
    ·cases d
   ·cases d
theorem Zr{φ:Nat->Ob}{ops:Array Oper}{K:Env->List Ob->Prop}:∀(l:List Oper),(l.all (vu N))=true->∀ {T:Env} {h:List Ob},Upto φ h.length->wpA P ops K l T h->∀ {w:World} {g:Gh} {a:Act},Rel N B w g (fill φ h) a T->
  ∀ {Q:Exit->Act->World->Prop},(∀C h' w' D,K C h'->Aft N B φ w g h C h' D w'->Q .normal D w')->wpListIn Fence.wide 0 P ops Q l a w
 | [],_,T,h,_,k,w,g,a,r,Q,z=>z _ _ _ _ k (.refl r)
 | o::l,m,T,h,F,k,w,g,a,r,Q,z=>by
   rw[List.all_cons,zq] at m
   have i:Ys P T h o (wpA P ops K l)->o.wpIn Fence.wide 0 P a w (wpListIn Fence.wide 0 P ops Q l) Q:=λk=>
    Yt 0 F m.1 k r λC h' w' D k' q=>by
     have L:=q.len
     obtain⟨g',S,R,J⟩:=q
     exact Zr l m.2 (F.mono L) k' R λI O M a2 k2 E=>z _ _ _ _ k2 (E.trans S J)
   have f:wpA P ops K l (jb T o.dst (.v undef)) h->wpListIn Fence.wide 0 P ops Q l (a.put o.dst undef) w:=λk=>
    Zr l m.2 F k (wU r (Good.refl r.ok r.hB) (x:= .v undef) rfl m.1) λI O M a2 k2 E=>z _ _ _ _ k2 E
   unfold wpA at k
   unfold wpListIn
   split at k
   ·rename_i p
    rw[if_pos (by simp[Region.wanted,p])]
    exact(i k)
   ·rename_i j want p
    split at k
    ·rename_i d n
     have y:yielded ops a.tmps j=match a.tmps[d]? with|some (.bool b)=>some b|_=>none:=by
      simp only[yielded,n,Option.bind_some]
      rfl
     have c:=r.t d
     rw[zU] at c
     split at k
     ·rename_i b G
      rw[G] at c
      have c:(a.tmps[d]?).getD undef= .bool b:=c
      have H:a.tmps[d]? =some (.bool b):=by
       cases e:a.tmps[d]? with
       | none=>rw[e] at c;cases c
       | some u=>rw[e] at c;exact congrArg some c
      rw[H] at y
      by_cases s:b=want
      ·rw[if_pos (by simp[Region.wanted,p,y,s])]
       exact(i (k.1 s))
      ·rw[if_neg (by simp[Region.wanted,p,y,s])]
       exact⟨λ_ _=>trivial,f (k.2 s)⟩
     ·rename_i vs G
      rw[G] at c
      have c:(a.tmps[d]?).getD undef= .tuple vs:=c
      have A:yielded ops a.tmps j=none:=by
       rw[y]
       cases e:a.tmps[d]? with
       | none=>rfl
       | some u=>rw[e] at c;have:u= .tuple vs:=c;subst this;rfl
      rw[if_neg (by simp[Region.wanted,p,A])]
      exact⟨λ_ _=>trivial,f k⟩
     ·exact k.elim
    ·exact k.elim
theorem vBa{id:Nat}{ops:Array Oper}{Q:xR}(c:(ops.toList.all (vu N))=true)(k:wpA P ops (Q .normal) ops.toList T h):AWp P N B (.region id ops false) Q T h:=λφ d w g a r=>
 (wpIn_wide (n:=0)).1 (wpIn_region (by
  rw[List.range_eq_range', <-qF,wpOpsIn_eq_wpListIn ops.toList 0 (by simp)]
  exact Zr ops.toList c d k r λb h' w' e k' q=>⟨b,h',k',q⟩))
end
def Kd(P:Program)(T:Env)(h:List Ob):ResultVar->Option AV
 | .tmp t=>some (T t)
 | .cell a t=>match T a with
   | .ptr id off=>Jw h (zP P t) (.ptr id off)
   | _=>none
def y6(P:Program)(T:Env)(h:List Ob):List ResultVar->Option (List AV)
 | []=>some []
 | r::rs=>(Kd P T h r).bind λx=>(y6 P T h rs).map (x:: ·)
def K6a:List AV->AV
 | [x]=>x
 | xs=> .tup xs
def VE(P:Program)(T:Env)(h:List Ob)(rs:List ResultVar):Option AV:=
 (y6 P T h rs).map K6a
def xib(P:Program)(fn:Func)(R:AV->List Ob->Prop):xR
 | .normal,T,h | .ret,T,h=>∃r,VE P T h fn.results.toList=some r/\R r h
 | _,_,_=>False
section
variable {P:Program} {N:Nat} {B:Bs} {T:Env} {h:List Ob}
def Zua(tmps:Array Value):ResultVar->Sem Value
 | .tmp t=>pure (tmps.getD t undef)
 | .cell b t=>do loadVar t (<-asAddr (tmps.getD b undef))
theorem Yu(fn:Func)(tmps:Array Value):results fn tmps=(do let vs<-fn.results.mapM (Zua tmps);pure (if h:vs.size=1 then vs[0] else .tuple vs)):=by
 unfold results
 first|rfl|(congr 1;first|done|(congr 1;funext r;cases r<;>rfl))
theorem QY{B:Nat}{w:World}{g:Gh}{a:Act}(l:HOk B w g h)(hB:B<=w.heap.size)(k:wT (ctx w g h) T a):∀(rs:List ResultVar) (xs:List AV),y6 P T h rs=some xs->
  ∃vs,(rs.mapM (Zua a.tmps)).run P w= .ok vs w/\ARs (ctx w g h) xs vs
 | [],xs,e=>by injection e with e;subst e;exact⟨[],by simp,rfl⟩
 | r::rs,xs,e=>by
   simp only[y6] at e
   cases c:Kd P T h r with
   | none=>rw[c] at e;cases e
   | some x=>
     rw[c] at e
     simp only[Option.bind_some] at e
     cases j:y6 P T h rs with
     | none=>rw[j] at e;cases e
     | some ys=>
       rw[j] at e
       injection e with e
       subst e
       obtain⟨vs,n,o⟩:=QY l hB k rs ys j
       cases r with
       | tmp t=>
         injection c with c
         subst c
         exact⟨a.tmps.getD t undef::vs,by simp only[List.mapM_cons,Sem.run_bind,Zua,Sem.run_pure,Result.andThen_ok,n],⟨_,_,rfl,k t,o⟩⟩
       | cell b t=>
         simp only[Kd] at c
         split at c
         ·rename_i id off p
          have m:=k b
          rw[p] at m
          obtain⟨v,w',g',z,y,z3⟩:=xya (P:=P) l hB m c
          have f:a.tmps.getD b undef= .pointer (some ⟨g.β id,off,none⟩):=m.2
          have s:∃v,(loadVar t ⟨g.β id,off,none⟩).run P w= .ok v w/\AR (ctx w g h) x v:=by
           simp only[Jw] at c
           split at c
           ·rename_i ty cs u
            split at c
            ·rename_i q
             obtain⟨v,d,i⟩:=VA (P:=P) q (Yg l u) c
             rw[Addr.add_lit,Nat.zero_add] at d
             exact⟨v,d,i⟩
            ·cases c
           ·cases c
          obtain⟨v,d,i⟩:=s
          exact⟨v::vs,by simp only[List.mapM_cons,Sem.run_bind,Zua,f,asAddr,Sem.run_pure,Result.andThen_ok,d,n],⟨_,_,rfl,i,o⟩⟩
         ·cases c
theorem Wq{φ:Nat->Ob}:∀(rs:List ResultVar) {xs:List AV},y6 P T h rs=some xs->y6 P T (fill φ h) rs=some xs
 | [],_,e=>e
 | r::rs,xs,e=>by
   simp only[y6] at e⊢
   cases a:Kd P T h r with
   | none=>rw[a] at e;cases e
   | some x=>
     rw[a] at e
     cases c:y6 P T h rs with
     | none=>rw[c] at e;cases e
     | some ys=>
       rw[c] at e
       have:Kd P T (fill φ h) r=some x:=by
        cases r with
        | tmp t=>exact a
        | cell b t=>
          simp only[Kd] at a⊢
          split at a
          ·exact Yp _ a
          ·cases a
       rw[this,Wq rs c]
       exact e
theorem z7a{f:FuncId}{fn:Func}{c:Code}{aZ:List AV}{R:AV->List Ob->Prop}(N:P.funcs[f]? =some fn)(T:fn.body=some c)(M:aZ.length<=fn.ntmps)(A:Yq P f=true)(hex:∃r h',R r h'/\ResK h h')
  (k:∀B:Bs,AWp P fn.ntmps B c (xib P fn R) (nth aZ) h):ACalls P f aZ h R:=⟨A,hex,λφ S B w g vs I hB a=>by
 have l:=wz a
 refine calls_of_wp N T ?_
 have o:Rel fn.ntmps ⟨B,[]⟩ w g (fill φ h) { tmps:=vs.toArray++Array.replicate (fn.ntmps - vs.toArray.size) undef,defers:=[] } (nth aZ):=by
  refine⟨I,hB,λi=>?_,rfl,by simp;omega⟩
  by_cases hi:i<aZ.length
  ·obtain⟨u,m,j⟩:=yO a i hi
   have:(vs.toArray++Array.replicate (fn.ntmps - vs.toArray.size) undef).getD i undef=u:=by
    rw[zU,Array.getElem?_append_left (by simp;omega)]
    simp[m]
   simp only[this]
   exact j
  ·have:nth aZ i= .bad:=by
    clear l a k M
    induction aZ generalizing i with
    | nil=>rfl
    | cons x aZ H=>
      cases i with
      | zero=>simp at hi
      | succ i=>exact H i (by simpa using hi)
   rw[this]
   trivial
 refine wp_mono (k ⟨B,[]⟩ φ S w g _ o) λe p w' ⟨E,h',m,g',U,j,F⟩=>?_
 have fin:(∃r,VE P E h' fn.results.toList=some r/\R r h')->p.defers=[]/\∃v,(results fn p.tmps).run P w'= .ok v w'/\∃v' r h'' g'',Ending.returned v= .returned v'/\R r h''/\ResK h h''/\Good B w g (fill φ h) w' g'' (fill φ h'')/\AR (ctx w' g'' (fill φ h'')) r v':=by
  rintro ⟨r,b,O⟩
  refine⟨j.d,?_⟩
  unfold VE at b
  cases z:y6 P E h' fn.results.toList with
  | none=>rw[z] at b;cases b
  | some xs=>
    rw[z] at b
    injection b with b
    obtain⟨us,K,C⟩:=QY j.ok j.hB j.t _ xs (Wq _ z)
    have Q:(fn.results.mapM (Zua p.tmps)).run P w'= .ok us.toArray w':=by
     rw[Array.mapM_eq_mapM_toList]
     simp[K]
    have n:(results fn p.tmps).run P w'= .ok (if h:us.toArray.size=1 then us.toArray[0] else .tuple us.toArray) w':=by
     rw[Yu,Sem.run_bind,Q]
     rfl
    refine⟨_,n,_,r,h',g',rfl,O,U,F,?_⟩
    have J:=wz C
    unfold K6a at b
    split at b
    ·rename_i x
     subst b
     obtain⟨u,q,G,L,D⟩:=C
     have D:q=[]:=D
     subst D G
     simpa using L
    ·rename_i y
     subst b
     rw[dif_neg]
     ·exact⟨us.toArray,rfl,by simpa using C⟩
     ·intro s
      have s:us.length=1:=by simpa using s
      rw[<-J] at s
      match xs,s with
      | [x],_=>exact y x rfl
 cases e with
 | normal=>exact fin m
 | ret=>exact fin m
 | _=>exact m.elim⟩
end
