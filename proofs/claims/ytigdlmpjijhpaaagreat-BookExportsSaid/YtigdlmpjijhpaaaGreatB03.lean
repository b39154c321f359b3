import Derived.Test.YtigdlmpjijhpaaaGreatBA
import Derived.Test.YtigdlmpjijhpaaaGreatB02
import Derived.Tactics
import Derived.RangeFuncNested
import Derived.RangeFuncCalls
import Derived.TacticsIn
set_option linter.all false
namespace Go.Proofs.YtigdlmpjijhpaaaGreat.Ax
open Go Go.RowKit
abbrev Env:=Nat->AV
def upd(T:Env)(d:Nat)(x:AV):Env:=λi=>if i=d then x else T i
def qW(T:Env)(d:Option Nat)(x:AV):Env:=match d with
 | some d=>upd T d x
 | none=>T
abbrev jF:=Exit->Env->List Ob->Prop
structure Bs where
 b:Nat
 ds:List Deferred
structure Rel (N:Nat) (B:Bs) (w:World) (g:Gh) (h:List Ob) (a:Act) (T:Env):Prop where
 ok:HOk B.b w g h
 hB:B.b<=w.heap.size
 t:wF (ctx w g h) T a
 d:a.defers=B.ds
 n:a.tmps.size=N
def XQ(P:Program)(f:FuncId):Bool:=match P.funcs[f]? with
 | some fn=>fn.name != "runtime.NumGoroutine" && fn.body.isSome
 | none=>false
def Aft(N:Nat)(B:Bs)(φ:Nat->Ob)(w:World)(g:Gh)(h:List Ob)(c:Env)(h':List Ob)(a:Act)(w':World):Prop:=
 ∃g',ResK h h'/\Rel N B w' g' (fill φ h') a c/\Good B.b w g (fill φ h) w' g' (fill φ h')
theorem yB{B:Nat}{φ:Nat->Ob}{w w':World}{g g':Gh}{h h':List Ob}(k:Good B w g (fill φ h) w' g' (fill φ h')):h.length<=h'.length:=by
 have:=k.le.n;simpa [ctx,q9] using this
theorem Aft.len{N:Nat}{B:Bs}{φ:Nat->Ob}{w w':World}{g:Gh}{h h':List Ob}{b:Env}{a:Act}(k:Aft N B φ w g h b h' a w'):h.length<=h'.length:=by
 obtain⟨g',_,_,k⟩:=k;exact yB k
theorem Aft.refl{N:Nat}{B:Bs}{φ:Nat->Ob}{w:World}{g:Gh}{h:List Ob}{T:Env}{a:Act}(r:Rel N B w g (fill φ h) a T):Aft N B φ w g h T h a w:=⟨g,.refl,r,Good.refl r.ok r.hB⟩
def ACalls(P:Program)(f:FuncId)(aZ:List AV)(h:List Ob)(R:AV->List Ob->Prop):Prop:=
 XQ P f=true/\(∃r h',R r h'/\ResK h h')/\∀(φ:Nat->Ob),Upto φ h.length->∀(B:Nat) (w:World) (g:Gh) (vs:List Value),HOk B w g (fill φ h)->B<=w.heap.size->ARs (ctx w g (fill φ h)) aZ vs->
  Calls P f vs.toArray w λe w'=>∃v r h' g',e= .returned v/\R r h'/\ResK h h'/\Good B w g (fill φ h) w' g' (fill φ h')/\AR (ctx w' g' (fill φ h')) r v
theorem ACalls.mono{P:Program}{f:FuncId}{aZ:List AV}{h:List Ob}{R b:AV->List Ob->Prop}(c:ACalls P f aZ h R)(a:∀r h',R r h'->b r h'):ACalls P f aZ h b:=
 ⟨c.1,let ⟨r,h',q1,q2⟩:=c.2.1;⟨r,h',a _ _ q1,q2⟩,λφ l B w g vs j d n=>(c.2.2 φ l B w g vs j d n).mono λe w' ⟨v,r,h',g',m,k,i⟩=>⟨v,r,h',g',m,a _ _ k,i⟩⟩
def AWp(P:Program)(N:Nat)(B:Bs)(c:Code)(Q:jF)(T:Env)(h:List Ob):Prop:=
 ∀(φ:Nat->Ob),Upto φ h.length->∀(w:World) (g:Gh) (a:Act),Rel N B w g (fill φ h) a T->c.wp P (λe d w'=>∃b h',Q e b h'/\Aft N B φ w g h b h' d w') a w
section
variable {P:Program} {N:Nat} {B:Bs} {Q Q':jF} {T:Env} {h:List Ob} {c c':Code}
theorem AWp.mono(k:AWp P N B c Q T h)(b:∀e T h,Q e T h->Q' e T h):AWp P N B c Q' T h:=
 λφ i w g a r=>wp_mono (k φ i w g a r) λ_ _ _ ⟨f,h',j,d⟩=>⟨f,h',b _ _ _ j,d⟩
theorem Aft.trans{φ:Nat->Ob}{w w' w'':World}{g g':Gh}{h h' h'':List Ob}{c:Env}{a:Act}(j:ResK h h')(k:Good B.b w g (fill φ h) w' g' (fill φ h'))(b:Aft N B φ w' g' h' c h'' a w''):Aft N B φ w g h c h'' a w'':=by
 obtain⟨e,i,d,f⟩:=b
 exact⟨e,j.trans i,d,k.trans f⟩
theorem jva{b:Env}{h':List Ob}(k:AWp P N B c Q b h')(f:∀(φ:Nat->Ob),Upto φ h.length->∀w g a,Rel N B w g (fill φ h) a T->Aft N B φ w g h b h' a w):AWp P N B c Q T h:=λφ d w g a r=>by
 have e:=f φ d w g a r
 have o:=e.len
 obtain⟨g',q,l,k'⟩:=e
 exact wp_mono (k φ (d.mono o) w g' a l) λ_ _ _ ⟨m,i,n,j⟩=>⟨m,i,n,j.trans q k'⟩
theorem WP{e:Exit}(c:Q e T h){φ:Nat->Ob}{w:World}{g:Gh}{a:Act}(r:Rel N B w g (fill φ h) a T):∃b h',Q e b h'/\Aft N B φ w g h b h' a w:=
 ⟨T,h,c,.refl r⟩
theorem Js(a:Q .normal T h):AWp P N B .skip Q T h:=λ_ _ _ _ _ r=>wp_skip (WP a r)
theorem Zja{l:Nat}(a:Q .normal T h):AWp P N B (.label l) Q T h:=λ_ _ _ _ _ r=>wp_label (WP a r)
theorem Q0a{id:Nat}(a:Q (.exit id) T h):AWp P N B (.exit id) Q T h:=λ_ _ _ _ _ r=>wp_exit (WP a r)
theorem KEa(a:Q .ret T h):AWp P N B .ret Q T h:=λ_ _ _ _ _ r=>wp_ret (WP a r)
def yC(next:Env->List Ob->Prop)(Q:jF):jF
 | .normal,T,h=>next T h
 | e,T,h=>Q e T h
def QC(id:Nat)(Q:jF):jF
 | .exit i,T,h=>if i=id then Q .normal T h else Q (.exit i) T h
 | e,T,h=>Q e T h
theorem ZX(k:AWp P N B c (yC (AWp P N B c' Q) Q) T h):AWp P N B (.seq c c') Q T h:=λφ d w g a r=>by
 refine wp_seq (wp_mono (k φ d w g a r) λe m w' ⟨n,h',f,b⟩=>?_)
 have t:=b.len
 cases e<;>first
  | (obtain⟨g',s,l,q⟩:=b;exact wp_mono (f φ (d.mono t) w' g' m l) λ_ _ _ ⟨j,i,p,o⟩=>⟨j,i,p,o.trans s q⟩)
  | exact⟨n,h',f,b⟩
theorem wH{x:Operand}{t:Bool}(d:ev T x= .v (.bool t))(k1:t=true->AWp P N B c Q T h)(k2:t=false->AWp P N B c' Q T h):AWp P N B (.cond x c c') Q T h:=λφ b w g a r=>
 wp_cond_split (Zc r.t d) (λe=>k1 e φ b w g a r) (λe=>k2 e φ b w g a r)
theorem xE{id:Nat}(k:AWp P N B c (QC id Q) T h):AWp P N B (.block id c) Q T h:=λφ j w g a r=>by
 refine wp_block (wp_mono (k φ j w g a r) λe l w' ⟨f,h',b,d⟩=>?_)
 cases e with
 | exit i=>
   simp only[QC] at b
   simp only[Exit.inBlock]
   split
   ·rename_i hi;rw[if_pos hi] at b;exact⟨f,h',b,d⟩
   ·rename_i hi;rw[if_neg hi] at b;exact⟨f,h',b,d⟩
 | _=>exact⟨f,h',b,d⟩
theorem least{J:Nat->Prop}(e:∃n,J n):∃n,J n/\∀m,J m->n<=m:=by
 obtain⟨n,g⟩:=e
 induction n using Nat.strongRecOn with
 | _ n f=>
   by_cases b:∃m,m<n/\J m
   ·obtain⟨m,d,c⟩:=b
    exact f m d c
   ·exact⟨n,g,λm h=>Nat.le_of_not_lt λa=>b ⟨m,a,h⟩⟩
theorem Zt(I:Nat->Env->List Ob->Prop)(n:Nat)(h0:I n T h)
  (round:∀n T h,I n T h->AWp P N B c (yC (λd h'=>∃n',n'<n/\I n' d h') Q) T h):AWp P N B (.loop c) Q T h:=λφ F w g a r=>by
 let J:Nat->Act->World->Prop:=λn b w'=>∃d h',I n d h'/\Aft N B φ w g h d h' b w'
 let x:Act->World->Prop:=λb w'=>∃n,J n b w'
 have j:x a w:=⟨n,T,h,h0,.refl r⟩
 classical
 let μ:Act->World->Nat:=λb w'=>if e:∃n,J n b w' then Classical.choose (least e) else 0
 have o:∀b w' (e:∃n,J n b w'),J (μ b w') b w'/\∀m,J m b w'->μ b w'<=m:=λb w' e=>by
  have:μ b w'=Classical.choose (least e):=dif_pos e
  rw[this]
  exact Classical.choose_spec (least e)
 refine wp_loop x μ j λa1 v E=>?_
 obtain⟨D,y,H,t⟩:=(o a1 v E).1
 have K:=t.len
 obtain⟨C,G,z,A⟩:=t
 refine wp_mono (round _ D y H φ (F.mono K) v C a1 z) λe a2 q ⟨p,s,u,f⟩=>?_
 have f:=f.trans G A
 cases e with
 | normal=>
   obtain⟨n',l,i⟩:=u
   have k:J n' a2 q:=⟨p,s,i,f⟩
   exact⟨⟨n',k⟩,Nat.lt_of_le_of_lt ((o a2 q ⟨n',k⟩).2 n' k) l⟩
 | _=>exact⟨p,s,u,f⟩
end
def Zd(T:Env)(c:Call):Option (FuncId × List AV):=match c.callee with
 | .value x=>match ev T x with
   | .fn (.func f) a cs=>some (f,a++evl T c.args.toList++cs)
   | _=>none
 | _=>none
def wV(P:Program)(T:Env)(h:List Ob)(o:Oper)(K:Env->List Ob->Prop):Prop:=
 match qc P T h o.op with
 | some (x,h')=>K (qW T o.dst x) h'
 | none=>match o.op with
   | .call c=>match Zd T c with
     | some (f,aZ)=>ACalls P f aZ h λr h'=>K (qW T o.dst r) h'
     | none=>False
   | _=>False
def yr(T:Env)(o:Op):Option (Nat × List AV):=match o with
 | .call c=>match c.callee with
   | .value x=>match ev T x with
     | .v (.func (.yield l) a cs)=>if a.isEmpty && cs.isEmpty then some (l,evl T c.args.toList) else none
     | _=>none
   | _=>none
 | _=>none
def Yj(P:Program)(l:Nat)(aZ:List AV)(h:List Ob)(R:List Ob->Prop):Prop:=
 ∀ (φ:Nat->Ob),Upto φ h.length->∀(B:Nat) (w:World) (g:Gh) (vs:List Value),HOk B w g (fill φ h)->B<=w.heap.size->ARs (ctx w g (fill φ h)) aZ vs->
   ∃fn tmps assign body,(Instr.yield l vs.toArray).run P w= .ok (.round l fn tmps assign body) w/\∀m,RoundIn Fence.wide m P l fn tmps assign body w λe w'=>∃h' g',e= .returned (.bool true)/\R h'/\ResK h h'/\Good B w g (fill φ h) w' g' (fill φ h')
def WG(P:Program)(T:Env)(h:List Ob)(o:Oper)(K:Env->List Ob->Prop):Prop:=match yr T o.op with
 | some (l,aZ)=>Yj P l aZ h λh'=>K (qW T o.dst (.v (.bool true))) h'
 | none=>wV P T h o K
def xc(N:Nat)(o:Oper):Bool:=match o.dst with
 | some d=>decide (d<N)
 | none=>true
def wpA(P:Program)(ops:Array Oper)(Q:Env->List Ob->Prop):List Oper->Env->List Ob->Prop
 | [],T,h=>Q T h
 | o::r,T,h=>match o.guard with
   | none=>WG P T h o (wpA P ops Q r)
   | some (j,a)=>match (ops[j]?).bind (·.dst) with
     | some d=>match T d with
       | .v (.bool b)=>(b=a->WG P T h o (wpA P ops Q r))/\(b≠a->wpA P ops Q r (qW T o.dst (.v undef)) h)
       | .v (.tuple _)=>wpA P ops Q r (qW T o.dst (.v undef)) h
       | _=>False
     | none=>False
section
variable {P:Program} {N:Nat} {B:Bs} {T:Env} {h:List Ob}
theorem yha{c:Ctx}{a:Act}{d:Nat}{x:AV}{v:Value}(g:wF c T a)(b:AR c x v)(f:d<a.tmps.size):wF c (upd T d x) { a with tmps:=a.tmps.setIfInBounds d v }:=λi=>by
 simp only[upd,zt]
 split
 ·rename_i e
  subst e
  simpa [Array.getElem?_setIfInBounds,f] using b
 ·rename_i e
  have:=g i
  rw[zt] at this
  rw[Array.getElem?_setIfInBounds_ne (λh=>e h.symm)]
  exact this
theorem xU{w w':World}{g g':Gh}{h':List Ob}{a:Act}{o:Oper}{x:AV}{v:Value}(r:Rel N B w g h a T)(k:Good B.b w g h w' g' h')(j:AR (ctx w' g' h') x v)(c:xc N o=true):Rel N B w' g' h' (a.put o.dst v) (qW T o.dst x):=by
 have f:wF (ctx w' g' h') T a:=λi=>AR.le k.le _ _ (r.t i)
 cases e:o.dst with
 | none=>exact⟨k.ok,k.size,f,r.d,r.n⟩
 | some d=>
   simp only[xc,e,decide_eq_true_eq] at c
   exact⟨k.ok,k.size,yha f j (by rw[r.n];exact c),r.d,by simp[Act.put,r.n]⟩
theorem XR{φ:Nat->Ob}(I:Upto φ h.length){o:Oper}{K:Env->List Ob->Prop}(z:xc N o=true)(k:wV P T h o K){Q:Exit->Act->World->Prop}{w:World}{g:Gh}{a:Act}(r:Rel N B w g (fill φ h) a T)
  {next:Act->World->Prop} (y:∀E h' w' H,K E h'->Aft N B φ w g h E h' H w'->next H w'):o.wp P a w next Q:=by
 unfold wV at k
 unfold Oper.wp
 split at k
 ·rename_i x h' s
  obtain⟨u,n⟩:=ZW I _ s
  obtain⟨nx,v,w',g',A,C,m,D⟩:=jta r.ok r.hB r.t o u
  rw[A]
  rcases C with rfl|⟨rfl,rfl⟩
  ·exact y _ _ _ _ k ⟨g',n,xU r m D z,m⟩
  ·exact y _ _ _ _ k ⟨g',n,xU r m D z,m⟩
 ·split at k
  ·rename_i c G
   split at k
   ·rename_i f aZ d
    obtain⟨k1,_,k2⟩:=k
    unfold Zd at d
    split at d
    ·rename_i X q
     split at d
     ·rename_i F Z cs S
      injection d with d
      injection d with ht1 ht2
      subst ht1 ht2
      have s:=jL r.t X
      rw[S] at s
      obtain⟨us,vs,A,C,m⟩:=s
      have l:ARs (ctx w g (fill φ h)) (Z++evl T c.args.toList++cs) (us.toList++c.args.toList.map a.eval++vs.toList):=xj (xj C (QB r.t _)) m
      have i:=k2 φ I B.b w g _ r.ok r.hB l
      have j:∃fn,P.funcs[F]? =some fn/\fn.name≠ "runtime.NumGoroutine" /\fn.body.isSome=true:=by
       unfold XQ at k1
       split at k1
       ·rename_i fn j
        simp only[zl,bne_iff_ne,ne_eq] at k1
        exact⟨fn,j,k1.1,k1.2⟩
       ·cases k1
      obtain⟨fn,O,U,M⟩:=j
      have f5:(fn.name== "runtime.NumGoroutine")=false:=by simpa using U
      have W:fn.body.isNone=false:=by cases Y:fn.body<;>simp[Y] at M⊢
      have p:(execOp a.eval o).run P w= .ok (.enter F (us.toList++c.args.toList.map a.eval++vs.toList).toArray) w:=by
       obtain⟨dst,op,type,pos,after,guard⟩:=o
       simp only at G
       subst G
       simp only[execOp,resolve,q,A,Deferred.ofValue,Sem.run_bind,Sem.run_pure,Result.andThen_ok,invoke,callFunc,run_program,O,W,f5,Bool.false_eq_true,if_false]
       simp
      rw[p]
      refine Calls.mono i λe w' ⟨v,rr,h',g',q1,R,V,J,L⟩=>?_
      subst q1
      exact y _ _ _ _ R ⟨g',V,xU r J L z,J⟩
     ·cases d
    ·cases d
   ·exact k.elim
  ·exact k.elim
theorem xQ(n:Nat){o:Oper}{a:Act}{w:World}{K:Act->World->Prop}{Q:Exit->Act->World->Prop}(h:o.wp P a w K Q):o.wpIn Fence.wide n P a w K Q:=by
 unfold Oper.wp at h
 unfold Oper.wpIn
 refine⟨λ_ _=>trivial,?_⟩
 show o.uponIn Fence.wide n P a K Q ((execOp a.eval o).run P w)
 generalize (execOp a.eval o).run P w=r at h⊢
 have b:∀row args w' (R:Value->World->Prop),Rows P row args w' R->RowsIn Fence.wide (n - 1) P row args w' R:=λrow args w' R h c cs _=>by
  obtain⟨v,f,e,g⟩:=h c cs
  exact⟨v,f,e,stepsIn_wide.2 g⟩
 cases r with
 | ok x w'=>
   cases x<;>first|exact h|exact h.elim|exact⟨λd=>(by cases d),callsIn_wide.2 h⟩|exact⟨λd=>(by cases d),b _ _ _ _ h⟩
 | halt x w'=>
   cases x<;>first|exact h|exact h.elim
theorem XS{φ:Nat->Ob}(n:Nat)(A:Upto φ h.length){o:Oper}{K:Env->List Ob->Prop}(E:xc N o=true)(k:WG P T h o K){Q:Exit->Act->World->Prop}{w:World}{g:Gh}{a:Act}(r:Rel N B w g (fill φ h) a T)
  {next:Act->World->Prop} (m:∀v h' w' z,K v h'->Aft N B φ w g h v h' z w'->next z w'):o.wpIn Fence.wide n P a w next Q:=by
 unfold WG at k
 cases d:yr T o.op with
 | none=>rw[d] at k;exact xQ n (XR A E k r m)
 | some q=>
   obtain⟨l,ar⟩:=q
   rw[d] at k
   simp only at k
   unfold yr at d
   split at d
   ·rename_i c x
    split at d
    ·rename_i X j
     split at d
     ·rename_i l' C cs G
      split at d
      ·rename_i f
       injection d with d
       injection d with hy1 hy2
       subst hy1 hy2
       rw[zl] at f
       have p:=jL r.t X
       rw[G] at p
       have p:a.eval X= .func (.yield l') C cs:=p
       have s:C= #[]:=by simpa using f.1
       have u:cs= #[]:=by simpa using f.2
       subst s u
       obtain⟨fn,tmps,assign,body,y,I⟩:=k φ A B.b w g _ r.ok r.hB (QB r.t c.args.toList)
       have i:(execOp a.eval o).run P w= .ok (.round l' fn tmps assign body) w:=by
        obtain⟨dst,op,type,pos,after,guard⟩:=o
        simp only at x
        subst x
        simp only[execOp,resolve,j,p,Deferred.ofValue,Sem.run_bind,Sem.run_pure,Result.andThen_ok,invoke]
        rw[<-Array.toList_map,Array.toArray_toList] at y
        simpa using y
       unfold Oper.wpIn
       refine⟨λ_ _=>trivial,?_⟩
       show o.uponIn Fence.wide n P a next Q ((execOp a.eval o).run P w)
       rw[i,Oper.uponIn_round]
       refine⟨λm=>(by cases m),(I _).mono λe w' ⟨h',g',J,F,H,D⟩=>?_⟩
       subst J
       exact m _ _ _ _ F ⟨g',H,xU r D rfl E,D⟩
      ·cases d
     ·cases d
    ·cases d
   ·cases d
theorem yc{φ:Nat->Ob}{ops:Array Oper}{K:Env->List Ob->Prop}:∀(l:List Oper),(l.all (xc N))=true->∀ {T:Env} {h:List Ob},Upto φ h.length->wpA P ops K l T h->∀ {w:World} {g:Gh} {a:Act},Rel N B w g (fill φ h) a T->
  ∀ {Q:Exit->Act->World->Prop},(∀C h' w' E,K C h'->Aft N B φ w g h C h' E w'->Q .normal E w')->wpListIn Fence.wide 0 P ops Q l a w
 | [],_,T,h,_,k,w,g,a,r,Q,A=>A _ _ _ _ k (.refl r)
 | o::l,s,T,h,G,k,w,g,a,r,Q,A=>by
   rw[List.all_cons,zl] at s
   have i:WG P T h o (wpA P ops K l)->o.wpIn Fence.wide 0 P a w (wpListIn Fence.wide 0 P ops Q l) Q:=λk=>
    XS 0 G s.1 k r λC h' w' E k' q=>by
     have U:=q.len
     obtain⟨g',S,O,R⟩:=q
     exact yc l s.2 (G.mono U) k' O λI M J a2 k2 F=>A _ _ _ _ k2 (F.trans S R)
   have f:wpA P ops K l (qW T o.dst (.v undef)) h->wpListIn Fence.wide 0 P ops Q l (a.put o.dst undef) w:=λk=>
    yc l s.2 G k (xU r (Good.refl r.ok r.hB) (x:= .v undef) rfl s.1) λI M J a2 k2 F=>A _ _ _ _ k2 F
   unfold wpA at k
   unfold wpListIn
   split at k
   ·rename_i m
    rw[if_pos (by simp[Region.wanted,m])]
    exact(i k)
   ·rename_i j p m
    split at k
    ·rename_i d n
     have z:yielded ops a.tmps j=match a.tmps[d]? with|some (.bool b)=>some b|_=>none:=by
      simp only[yielded,n,Option.bind_some]
      rfl
     have c:=r.t d
     rw[zt] at c
     split at k
     ·rename_i b H
      rw[H] at c
      have c:(a.tmps[d]?).getD undef= .bool b:=c
      have L:a.tmps[d]? =some (.bool b):=by
       cases e:a.tmps[d]? with
       | none=>rw[e] at c;cases c
       | some u=>rw[e] at c;exact congrArg some c
      rw[L] at z
      by_cases y:b=p
      ·rw[if_pos (by simp[Region.wanted,m,z,y])]
       exact(i (k.1 y))
      ·rw[if_neg (by simp[Region.wanted,m,z,y])]
       exact⟨λ_ _=>trivial,f (k.2 y)⟩
     ·rename_i vs H
      rw[H] at c
      have c:(a.tmps[d]?).getD undef= .tuple vs:=c
      have D:yielded ops a.tmps j=none:=by
       rw[z]
       cases e:a.tmps[d]? with
       | none=>rfl
       | some u=>rw[e] at c;have:u= .tuple vs:=c;subst this;rfl
      rw[if_neg (by simp[Region.wanted,m,D])]
      exact⟨λ_ _=>trivial,f k⟩
     ·exact k.elim
    ·exact k.elim
theorem vya{id:Nat}{ops:Array Oper}{Q:jF}(d:(ops.toList.all (xc N))=true)(k:wpA P ops (Q .normal) ops.toList T h):AWp P N B (.region id ops false) Q T h:=λφ c w g a r=>
 (wpIn_wide (n:=0)).1 (wpIn_region (by
  rw[List.range_eq_range', <-qH,wpOpsIn_eq_wpListIn ops.toList 0 (by simp)]
  exact yc ops.toList d c k r λb h' w' e k' q=>⟨b,h',k',q⟩))
end
def XT(P:Program)(T:Env)(h:List Ob):ResultVar->Option AV
 | .tmp t=>some (T t)
 | .cell a t=>match T a with
   | .ptr id off=>Jc h (zO P t) (.ptr id off)
   | _=>none
def yR(P:Program)(T:Env)(h:List Ob):List ResultVar->Option (List AV)
 | []=>some []
 | r::rs=>(XT P T h r).bind λx=>(yR P T h rs).map (x:: ·)
def KFa:List AV->AV
 | [x]=>x
 | xs=> .tup xs
def Z5(P:Program)(T:Env)(h:List Ob)(rs:List ResultVar):Option AV:=
 (yR P T h rs).map KFa
def jMb(P:Program)(fn:Func)(R:AV->List Ob->Prop):jF
 | .normal,T,h | .ret,T,h=>∃r,Z5 P T h fn.results.toList=some r/\R r h
 | _,_,_=>False
section
variable {P:Program} {N:Nat} {B:Bs} {T:Env} {h:List Ob}
def Zka(tmps:Array Value):ResultVar->Sem Value
 | .tmp t=>pure (tmps.getD t undef)
 | .cell b t=>do loadVar t (<-asAddr (tmps.getD b undef))
theorem Yk(fn:Func)(tmps:Array Value):results fn tmps=(do let vs<-fn.results.mapM (Zka tmps);pure (if h:vs.size=1 then vs[0] else .tuple vs)):=by
 unfold results
 first|rfl|(congr 1;first|done|(congr 1;funext r;cases r<;>rfl))
theorem QD{B:Nat}{w:World}{g:Gh}{a:Act}(k:HOk B w g h)(hB:B<=w.heap.size)(m:wF (ctx w g h) T a):∀(rs:List ResultVar) (xs:List AV),yR P T h rs=some xs->
  ∃vs,(rs.mapM (Zka a.tmps)).run P w= .ok vs w/\ARs (ctx w g h) xs vs
 | [],xs,e=>by injection e with e;subst e;exact⟨[],by simp,rfl⟩
 | r::rs,xs,e=>by
   simp only[yR] at e
   cases c:XT P T h r with
   | none=>rw[c] at e;cases e
   | some x=>
     rw[c] at e
     simp only[Option.bind_some] at e
     cases f:yR P T h rs with
     | none=>rw[f] at e;cases e
     | some ys=>
       rw[f] at e
       injection e with e
       subst e
       obtain⟨vs,o,n⟩:=QD k hB m rs ys f
       cases r with
       | tmp t=>
         injection c with c
         subst c
         exact⟨a.tmps.getD t undef::vs,by simp only[List.mapM_cons,Sem.run_bind,Zka,Sem.run_pure,Result.andThen_ok,o],⟨_,_,rfl,m t,n⟩⟩
       | cell b t=>
         simp only[XT] at c
         split at c
         ·rename_i id off q
          have j:=m b
          rw[q] at j
          obtain⟨v,w',g',z,y,z3⟩:=xqa (P:=P) k hB j c
          have i:a.tmps.getD b undef= .pointer (some ⟨g.β id,off,none⟩):=j.2
          have p:∃v,(loadVar t ⟨g.β id,off,none⟩).run P w= .ok v w/\AR (ctx w g h) x v:=by
           simp only[Jc] at c
           split at c
           ·rename_i ty cs s
            split at c
            ·rename_i u
             obtain⟨v,d,l⟩:=Vm (P:=P) u (W8 k s) c
             rw[Addr.add_lit,Nat.zero_add] at d
             exact⟨v,d,l⟩
            ·cases c
           ·cases c
          obtain⟨v,d,l⟩:=p
          exact⟨v::vs,by simp only[List.mapM_cons,Sem.run_bind,Zka,i,asAddr,Sem.run_pure,Result.andThen_ok,d,o],⟨_,_,rfl,l,n⟩⟩
         ·cases c
theorem Jt{φ:Nat->Ob}:∀(rs:List ResultVar) {xs:List AV},yR P T h rs=some xs->yR P T (fill φ h) rs=some xs
 | [],_,e=>e
 | r::rs,xs,e=>by
   simp only[yR] at e⊢
   cases a:XT P T h r with
   | none=>rw[a] at e;cases e
   | some x=>
     rw[a] at e
     cases c:yR P T h rs with
     | none=>rw[c] at e;cases e
     | some ys=>
       rw[c] at e
       have:XT P T (fill φ h) r=some x:=by
        cases r with
        | tmp t=>exact a
        | cell b t=>
          simp only[XT] at a⊢
          split at a
          ·exact Yi _ a
          ·cases a
       rw[this,Jt rs c]
       exact e
theorem z0a{f:FuncId}{fn:Func}{c:Code}{aZ:List AV}{R:AV->List Ob->Prop}(H:P.funcs[f]? =some fn)(T:fn.body=some c)(L:aZ.length<=fn.ntmps)(y:XQ P f=true)(hex:∃r h',R r h'/\ResK h h')
  (k:∀B:Bs,AWp P fn.ntmps B c (jMb P fn R) (nth aZ) h):ACalls P f aZ h R:=⟨y,hex,λφ S B w g vs Q hB a=>by
 have l:=vB a
 refine calls_of_wp H T ?_
 have o:Rel fn.ntmps ⟨B,[]⟩ w g (fill φ h) { tmps:=vs.toArray++Array.replicate (fn.ntmps - vs.toArray.size) undef,defers:=[] } (nth aZ):=by
  refine⟨Q,hB,λi=>?_,rfl,by simp;omega⟩
  by_cases hi:i<aZ.length
  ·obtain⟨u,n,j⟩:=wg a i hi
   have:(vs.toArray++Array.replicate (fn.ntmps - vs.toArray.size) undef).getD i undef=u:=by
    rw[zt,Array.getElem?_append_left (by simp;omega)]
    simp[n]
   simp only[this]
   exact j
  ·have:nth aZ i= .bad:=by
    clear l a k L
    induction aZ generalizing i with
    | nil=>rfl
    | cons x aZ G=>
      cases i with
      | zero=>simp at hi
      | succ i=>exact G i (by simpa using hi)
   rw[this]
   trivial
 refine wp_mono (k ⟨B,[]⟩ φ S w g _ o) λe s w' ⟨E,h',n,g',I,j,F⟩=>?_
 have fin:(∃r,Z5 P E h' fn.results.toList=some r/\R r h')->s.defers=[]/\∃v,(results fn s.tmps).run P w'= .ok v w'/\∃v' r h'' g'',Ending.returned v= .returned v'/\R r h''/\ResK h h''/\Good B w g (fill φ h) w' g'' (fill φ h'')/\AR (ctx w' g'' (fill φ h'')) r v':=by
  rintro ⟨r,b,M⟩
  refine⟨j.d,?_⟩
  unfold Z5 at b
  cases z:yR P E h' fn.results.toList with
  | none=>rw[z] at b;cases b
  | some xs=>
    rw[z] at b
    injection b with b
    obtain⟨us,N,C⟩:=QD j.ok j.hB j.t _ xs (Jt _ z)
    have K:(fn.results.mapM (Zka s.tmps)).run P w'= .ok us.toArray w':=by
     rw[Array.mapM_eq_mapM_toList]
     simp[N]
    have m:(results fn s.tmps).run P w'= .ok (if h:us.toArray.size=1 then us.toArray[0] else .tuple us.toArray) w':=by
     rw[Yk,Sem.run_bind,K]
     rfl
    refine⟨_,m,_,r,h',g',rfl,M,I,F,?_⟩
    have U:=vB C
    unfold KFa at b
    split at b
    ·rename_i x
     subst b
     obtain⟨u,q,J,O,D⟩:=C
     have D:q=[]:=D
     subst D J
     simpa using O
    ·rename_i A
     subst b
     rw[dif_neg]
     ·exact⟨us.toArray,rfl,by simpa using C⟩
     ·intro p
      have p:us.length=1:=by simpa using p
      rw[<-U] at p
      match xs,p with
      | [x],_=>exact A x rfl
 cases e with
 | normal=>exact fin n
 | ret=>exact fin n
 | _=>exact n.elim⟩
end
