import Derived.Test.YtigdlmpjijhpaaaGreatKA
import Derived.Test.YtigdlmpjijhpaaaGreatK02
import Derived.Tactics
import Derived.RangeFuncNested
import Derived.RangeFuncCalls
import Derived.TacticsIn
set_option linter.all false
namespace Go.Proofs.YtigdlmpjijhpaaaGreat.Ax
open Go Go.RowKit
abbrev Env:=Nat->AV
def upd(T:Env)(d:Nat)(x:AV):Env:=λi=>if i=d then x else T i
def jc(T:Env)(d:Option Nat)(x:AV):Env:=match d with
 | some d=>upd T d x
 | none=>T
abbrev xV:=Exit->Env->List Ob->Prop
structure Bs where
 b:Nat
 ds:List Deferred
structure Rel (N:Nat) (B:Bs) (w:World) (g:Gh) (h:List Ob) (a:Act) (T:Env):Prop where
 ok:HOk B.b w g h
 hB:B.b<=w.heap.size
 t:wU (ctx w g h) T a
 d:a.defers=B.ds
 n:a.tmps.size=N
def Ys(P:Program)(f:FuncId):Bool:=match P.funcs[f]? with
 | some fn=>fn.name != "runtime.NumGoroutine" && fn.body.isSome
 | none=>false
def Aft(N:Nat)(B:Bs)(φ:Nat->Ob)(w:World)(g:Gh)(h:List Ob)(c:Env)(h':List Ob)(a:Act)(w':World):Prop:=
 ∃g',ResK h h'/\Rel N B w' g' (fill φ h') a c/\Good B.b w g (fill φ h) w' g' (fill φ h')
theorem ZC{B:Nat}{φ:Nat->Ob}{w w':World}{g g':Gh}{h h':List Ob}(k:Good B w g (fill φ h) w' g' (fill φ h')):h.length<=h'.length:=by
 have:=k.le.n;simpa [ctx,jo] using this
theorem Aft.len{N:Nat}{B:Bs}{φ:Nat->Ob}{w w':World}{g:Gh}{h h':List Ob}{b:Env}{a:Act}(k:Aft N B φ w g h b h' a w'):h.length<=h'.length:=by
 obtain⟨g',_,_,k⟩:=k;exact ZC k
theorem Aft.refl{N:Nat}{B:Bs}{φ:Nat->Ob}{w:World}{g:Gh}{h:List Ob}{T:Env}{a:Act}(r:Rel N B w g (fill φ h) a T):Aft N B φ w g h T h a w:=⟨g,.refl,r,Good.refl r.ok r.hB⟩
def ACalls(P:Program)(f:FuncId)(aZ:List AV)(h:List Ob)(R:AV->List Ob->Prop):Prop:=
 Ys P f=true/\(∃r h',R r h'/\ResK h h')/\∀(φ:Nat->Ob),Upto φ h.length->∀(B:Nat) (w:World) (g:Gh) (vs:List Value),HOk B w g (fill φ h)->B<=w.heap.size->ARs (ctx w g (fill φ h)) aZ vs->
  Calls P f vs.toArray w λe w'=>∃v r h' g',e= .returned v/\R r h'/\ResK h h'/\Good B w g (fill φ h) w' g' (fill φ h')/\AR (ctx w' g' (fill φ h')) r v
theorem ACalls.mono{P:Program}{f:FuncId}{aZ:List AV}{h:List Ob}{R a:AV->List Ob->Prop}(c:ACalls P f aZ h R)(b:∀r h',R r h'->a r h'):ACalls P f aZ h a:=
 ⟨c.1,let ⟨r,h',q1,q2⟩:=c.2.1;⟨r,h',b _ _ q1,q2⟩,λφ m B w g vs n j i=>(c.2.2 φ m B w g vs n j i).mono λe w' ⟨v,r,h',g',l,k,d⟩=>⟨v,r,h',g',l,b _ _ k,d⟩⟩
def AWp(P:Program)(N:Nat)(B:Bs)(c:Code)(Q:xV)(T:Env)(h:List Ob):Prop:=
 ∀(φ:Nat->Ob),Upto φ h.length->∀(w:World) (g:Gh) (a:Act),Rel N B w g (fill φ h) a T->c.wp P (λe d w'=>∃b h',Q e b h'/\Aft N B φ w g h b h' d w') a w
section
variable {P:Program} {N:Nat} {B:Bs} {Q Q':xV} {T:Env} {h:List Ob} {c c':Code}
theorem AWp.mono(k:AWp P N B c Q T h)(b:∀e T h,Q e T h->Q' e T h):AWp P N B c Q' T h:=
 λφ j w g a r=>wp_mono (k φ j w g a r) λ_ _ _ ⟨f,h',i,d⟩=>⟨f,h',b _ _ _ i,d⟩
theorem Aft.trans{φ:Nat->Ob}{w w' w'':World}{g g':Gh}{h h' h'':List Ob}{c:Env}{a:Act}(f:ResK h h')(k:Good B.b w g (fill φ h) w' g' (fill φ h'))(b:Aft N B φ w' g' h' c h'' a w''):Aft N B φ w g h c h'' a w'':=by
 obtain⟨d,j,e,i⟩:=b
 exact⟨d,f.trans j,e,k.trans i⟩
theorem Via{b:Env}{h':List Ob}(k:AWp P N B c Q b h')(l:∀(φ:Nat->Ob),Upto φ h.length->∀w g a,Rel N B w g (fill φ h) a T->Aft N B φ w g h b h' a w):AWp P N B c Q T h:=λφ e w g a r=>by
 have d:=l φ e w g a r
 have j:=d.len
 obtain⟨g',q,f,k'⟩:=d
 exact wp_mono (k φ (e.mono j) w g' a f) λ_ _ _ ⟨i,n,o,m⟩=>⟨i,n,o,m.trans q k'⟩
theorem W4{e:Exit}(c:Q e T h){φ:Nat->Ob}{w:World}{g:Gh}{a:Act}(r:Rel N B w g (fill φ h) a T):∃b h',Q e b h'/\Aft N B φ w g h b h' a w:=
 ⟨T,h,c,.refl r⟩
theorem Jua(a:Q .normal T h):AWp P N B .skip Q T h:=λ_ _ _ _ _ r=>wp_skip (W4 a r)
theorem ZAa{l:Nat}(a:Q .normal T h):AWp P N B (.label l) Q T h:=λ_ _ _ _ _ r=>wp_label (W4 a r)
theorem Jva{id:Nat}(a:Q (.exit id) T h):AWp P N B (.exit id) Q T h:=λ_ _ _ _ _ r=>wp_exit (W4 a r)
theorem jCa(a:Q .ret T h):AWp P N B .ret Q T h:=λ_ _ _ _ _ r=>wp_ret (W4 a r)
def yS(next:Env->List Ob->Prop)(Q:xV):xV
 | .normal,T,h=>next T h
 | e,T,h=>Q e T h
def QZ(id:Nat)(Q:xV):xV
 | .exit i,T,h=>if i=id then Q .normal T h else Q (.exit i) T h
 | e,T,h=>Q e T h
theorem Z6(k:AWp P N B c (yS (AWp P N B c' Q) Q) T h):AWp P N B (.seq c c') Q T h:=λφ f w g a r=>by
 refine wp_seq (wp_mono (k φ f w g a r) λe n w' ⟨l,h',d,b⟩=>?_)
 have p:=b.len
 cases e<;>first
  | (obtain⟨g',t,o,q⟩:=b;exact wp_mono (d φ (f.mono p) w' g' n o) λ_ _ _ ⟨m,s,i,j⟩=>⟨m,s,i,j.trans t q⟩)
  | exact⟨l,h',d,b⟩
theorem Jwa{x:Operand}{t:Bool}(d:ev T x= .v (.bool t))(k1:t=true->AWp P N B c Q T h)(k2:t=false->AWp P N B c' Q T h):AWp P N B (.cond x c c') Q T h:=λφ b w g a r=>
 wp_cond_split (Zm r.t d) (λe=>k1 e φ b w g a r) (λe=>k2 e φ b w g a r)
theorem VF{id:Nat}(k:AWp P N B c (QZ id Q) T h):AWp P N B (.block id c) Q T h:=λφ j w g a r=>by
 refine wp_block (wp_mono (k φ j w g a r) λe l w' ⟨d,h',b,f⟩=>?_)
 cases e with
 | exit i=>
   simp only[QZ] at b
   simp only[Exit.inBlock]
   split
   ·rename_i hi;rw[if_pos hi] at b;exact⟨d,h',b,f⟩
   ·rename_i hi;rw[if_neg hi] at b;exact⟨d,h',b,f⟩
 | _=>exact⟨d,h',b,f⟩
theorem least{J:Nat->Prop}(e:∃n,J n):∃n,J n/\∀m,J m->n<=m:=by
 obtain⟨n,f⟩:=e
 induction n using Nat.strongRecOn with
 | _ n c=>
   by_cases b:∃m,m<n/\J m
   ·obtain⟨m,g,d⟩:=b
    exact c m g d
   ·exact⟨n,f,λm h=>Nat.le_of_not_lt λa=>b ⟨m,a,h⟩⟩
theorem xKa(I:Nat->Env->List Ob->Prop)(n:Nat)(h0:I n T h)
  (round:∀n T h,I n T h->AWp P N B c (yS (λd h'=>∃n',n'<n/\I n' d h') Q) T h):AWp P N B (.loop c) Q T h:=λφ E w g a r=>by
 let J:Nat->Act->World->Prop:=λn b w'=>∃d h',I n d h'/\Aft N B φ w g h d h' b w'
 let u:Act->World->Prop:=λb w'=>∃n,J n b w'
 have i:u a w:=⟨n,T,h,h0,.refl r⟩
 classical
 let μ:Act->World->Nat:=λb w'=>if e:∃n,J n b w' then Classical.choose (least e) else 0
 have o:∀b w' (e:∃n,J n b w'),J (μ b w') b w'/\∀m,J m b w'->μ b w'<=m:=λb w' e=>by
  have:μ b w'=Classical.choose (least e):=dif_pos e
  rw[this]
  exact Classical.choose_spec (least e)
 refine wp_loop u μ i λa1 t G=>?_
 obtain⟨F,z,A,x⟩:=(o a1 t G).1
 have K:=x.len
 obtain⟨D,y,H,C⟩:=x
 refine wp_mono (round _ F z A φ (E.mono K) t D a1 H) λe a2 p ⟨v,q,s,f⟩=>?_
 have f:=f.trans y C
 cases e with
 | normal=>
   obtain⟨n',l,k⟩:=s
   have j:J n' a2 p:=⟨v,q,k,f⟩
   exact⟨⟨n',j⟩,Nat.lt_of_le_of_lt ((o a2 p ⟨n',j⟩).2 n' j) l⟩
 | _=>exact⟨v,q,s,f⟩
end
def Zn(T:Env)(c:Call):Option (FuncId × List AV):=match c.callee with
 | .value x=>match ev T x with
   | .fn (.func f) a cs=>some (f,a++evl T c.args.toList++cs)
   | _=>none
 | _=>none
def yl(P:Program)(T:Env)(h:List Ob)(o:Oper)(K:Env->List Ob->Prop):Prop:=
 match qh P T h o.op with
 | some (x,h')=>K (jc T o.dst x) h'
 | none=>match o.op with
   | .call c=>match Zn T c with
     | some (f,aZ)=>ACalls P f aZ h λr h'=>K (jc T o.dst r) h'
     | none=>False
   | _=>False
def yM(T:Env)(o:Op):Option (Nat × List AV):=match o with
 | .call c=>match c.callee with
   | .value x=>match ev T x with
     | .v (.func (.yield l) a cs)=>if a.isEmpty && cs.isEmpty then some (l,evl T c.args.toList) else none
     | _=>none
   | _=>none
 | _=>none
def Yt(P:Program)(l:Nat)(aZ:List AV)(h:List Ob)(R:List Ob->Prop):Prop:=
 ∀ (φ:Nat->Ob),Upto φ h.length->∀(B:Nat) (w:World) (g:Gh) (vs:List Value),HOk B w g (fill φ h)->B<=w.heap.size->ARs (ctx w g (fill φ h)) aZ vs->
   ∃fn tmps assign body,(Instr.yield l vs.toArray).run P w= .ok (.round l fn tmps assign body) w/\∀m,RoundIn Fence.wide m P l fn tmps assign body w λe w'=>∃h' g',e= .returned (.bool true)/\R h'/\ResK h h'/\Good B w g (fill φ h) w' g' (fill φ h')
def Yu(P:Program)(T:Env)(h:List Ob)(o:Oper)(K:Env->List Ob->Prop):Prop:=match yM T o.op with
 | some (l,aZ)=>Yt P l aZ h λh'=>K (jc T o.dst (.v (.bool true))) h'
 | none=>yl P T h o K
def vv(N:Nat)(o:Oper):Bool:=match o.dst with
 | some d=>decide (d<N)
 | none=>true
def wpA(P:Program)(ops:Array Oper)(Q:Env->List Ob->Prop):List Oper->Env->List Ob->Prop
 | [],T,h=>Q T h
 | o::r,T,h=>match o.guard with
   | none=>Yu P T h o (wpA P ops Q r)
   | some (j,want)=>match (ops[j]?).bind (·.dst) with
     | some d=>match T d with
       | .v (.bool b)=>(b=want->Yu P T h o (wpA P ops Q r))/\(b≠want->wpA P ops Q r (jc T o.dst (.v undef)) h)
       | .v (.tuple _)=>wpA P ops Q r (jc T o.dst (.v undef)) h
       | _=>False
     | none=>False
section
variable {P:Program} {N:Nat} {B:Bs} {T:Env} {h:List Ob}
theorem yqa{c:Ctx}{a:Act}{d:Nat}{x:AV}{v:Value}(g:wU c T a)(b:AR c x v)(f:d<a.tmps.size):wU c (upd T d x) { a with tmps:=a.tmps.setIfInBounds d v }:=λi=>by
 simp only[upd,zV]
 split
 ·rename_i e
  subst e
  simpa [Array.getElem?_setIfInBounds,f] using b
 ·rename_i e
  have:=g i
  rw[zV] at this
  rw[Array.getElem?_setIfInBounds_ne (λh=>e h.symm)]
  exact this
theorem wV{w w':World}{g g':Gh}{h':List Ob}{a:Act}{o:Oper}{x:AV}{v:Value}(r:Rel N B w g h a T)(k:Good B.b w g h w' g' h')(j:AR (ctx w' g' h') x v)(c:vv N o=true):Rel N B w' g' h' (a.put o.dst v) (jc T o.dst x):=by
 have f:wU (ctx w' g' h') T a:=λi=>AR.le k.le _ _ (r.t i)
 cases e:o.dst with
 | none=>exact⟨k.ok,k.size,f,r.d,r.n⟩
 | some d=>
   simp only[vv,e,decide_eq_true_eq] at c
   exact⟨k.ok,k.size,yqa f j (by rw[r.n];exact c),r.d,by simp[Act.put,r.n]⟩
theorem Kd{φ:Nat->Ob}(H:Upto φ h.length){o:Oper}{K:Env->List Ob->Prop}(y:vv N o=true)(k:yl P T h o K){Q:Exit->Act->World->Prop}{w:World}{g:Gh}{a:Act}(r:Rel N B w g (fill φ h) a T)
  {next:Act->World->Prop} (z:∀G h' w' J,K G h'->Aft N B φ w g h G h' J w'->next J w'):o.wp P a w next Q:=by
 unfold yl at k
 unfold Oper.wp
 split at k
 ·rename_i x h' s
  obtain⟨C,q⟩:=Z5 H _ s
  obtain⟨nx,v,w',g',u,A,m,D⟩:=jAa r.ok r.hB r.t o C
  rw[u]
  rcases A with rfl|⟨rfl,rfl⟩
  ·exact z _ _ _ _ k ⟨g',q,wV r m D y,m⟩
  ·exact z _ _ _ _ k ⟨g',q,wV r m D y,m⟩
 ·split at k
  ·rename_i c I
   split at k
   ·rename_i f aZ d
    obtain⟨k1,_,k2⟩:=k
    unfold Zn at d
    split at d
    ·rename_i X n
     split at d
     ·rename_i F S cs W
      injection d with d
      injection d with ht1 ht2
      subst ht1 ht2
      have s:=jV r.t X
      rw[W] at s
      obtain⟨us,vs,u,A,m⟩:=s
      have l:ARs (ctx w g (fill φ h)) (S++evl T c.args.toList++cs) (us.toList++c.args.toList.map a.eval++vs.toList):=vT (vT A (X9 r.t _)) m
      have i:=k2 φ H B.b w g _ r.ok r.hB l
      have j:∃fn,P.funcs[F]? =some fn/\fn.name≠ "runtime.NumGoroutine" /\fn.body.isSome=true:=by
       unfold Ys at k1
       split at k1
       ·rename_i fn j
        simp only[zq,bne_iff_ne,ne_eq] at k1
        exact⟨fn,j,k1.1,k1.2⟩
       ·cases k1
      obtain⟨fn,V,O,M⟩:=j
      have f5:(fn.name== "runtime.NumGoroutine")=false:=by simpa using O
      have Y:fn.body.isNone=false:=by cases L:fn.body<;>simp[L] at M⊢
      have p:(execOp a.eval o).run P w= .ok (.enter F (us.toList++c.args.toList.map a.eval++vs.toList).toArray) w:=by
       obtain⟨dst,op,type,pos,after,guard⟩:=o
       simp only at I
       subst I
       simp only[execOp,resolve,n,u,Deferred.ofValue,Sem.run_bind,Sem.run_pure,Result.andThen_ok,invoke,callFunc,run_program,V,Y,f5,Bool.false_eq_true,if_false]
       simp
      rw[p]
      refine Calls.mono i λe w' ⟨v,rr,h',g',R,Z,U,E,q4⟩=>?_
      subst R
      exact z _ _ _ _ Z ⟨g',U,wV r E q4 y,E⟩
     ·cases d
    ·cases d
   ·exact k.elim
  ·exact k.elim
theorem Qv(n:Nat){o:Oper}{a:Act}{w:World}{K:Act->World->Prop}{Q:Exit->Act->World->Prop}(h:o.wp P a w K Q):o.wpIn Fence.wide n P a w K Q:=by
 unfold Oper.wp at h
 unfold Oper.wpIn
 refine⟨λ_ _=>trivial,?_⟩
 show o.uponIn Fence.wide n P a K Q ((execOp a.eval o).run P w)
 generalize (execOp a.eval o).run P w=r at h⊢
 have b:∀row args w' (R:Value->World->Prop),Rows P row args w' R->RowsIn Fence.wide (n - 1) P row args w' R:=λrow args w' R h c cs _=>by
  obtain⟨v,g,f,e⟩:=h c cs
  exact⟨v,g,f,stepsIn_wide.2 e⟩
 cases r with
 | ok x w'=>
   cases x<;>first|exact h|exact h.elim|exact⟨λd=>(by cases d),callsIn_wide.2 h⟩|exact⟨λd=>(by cases d),b _ _ _ _ h⟩
 | halt x w'=>
   cases x<;>first|exact h|exact h.elim
theorem Yv{φ:Nat->Ob}(n:Nat)(C:Upto φ h.length){o:Oper}{K:Env->List Ob->Prop}(z:vv N o=true)(k:Yu P T h o K){Q:Exit->Act->World->Prop}{w:World}{g:Gh}{a:Act}(r:Rel N B w g (fill φ h) a T)
  {next:Act->World->Prop} (p:∀A h' w' E,K A h'->Aft N B φ w g h A h' E w'->next E w'):o.wpIn Fence.wide n P a w next Q:=by
 unfold Yu at k
 cases d:yM T o.op with
 | none=>rw[d] at k;exact Qv n (Kd C z k r p)
 | some q=>
   obtain⟨l,ar⟩:=q
   rw[d] at k
   simp only at k
   unfold yM at d
   split at d
   ·rename_i c D
    split at d
    ·rename_i X i
     split at d
     ·rename_i l' y cs H
      split at d
      ·rename_i f
       injection d with d
       injection d with hy1 hy2
       subst hy1 hy2
       rw[zq] at f
       have m:=jV r.t X
       rw[H] at m
       have m:a.eval X= .func (.yield l') y cs:=m
       have s:y= #[]:=by simpa using f.1
       have u:cs= #[]:=by simpa using f.2
       subst s u
       obtain⟨fn,tmps,assign,body,x,I⟩:=k φ C B.b w g _ r.ok r.hB (X9 r.t c.args.toList)
       have j:(execOp a.eval o).run P w= .ok (.round l' fn tmps assign body) w:=by
        obtain⟨dst,op,type,pos,after,guard⟩:=o
        simp only at D
        subst D
        simp only[execOp,resolve,i,m,Deferred.ofValue,Sem.run_bind,Sem.run_pure,Result.andThen_ok,invoke]
        rw[<-Array.toList_map,Array.toArray_toList] at x
        simpa using x
       unfold Oper.wpIn
       refine⟨λ_ _=>trivial,?_⟩
       show o.uponIn Fence.wide n P a next Q ((execOp a.eval o).run P w)
       rw[j,Oper.uponIn_round]
       refine⟨λp=>(by cases p),(I _).mono λe w' ⟨h',g',F,J,G,v⟩=>?_⟩
       subst F
       exact p _ _ _ _ J ⟨g',G,wV r v rfl z,v⟩
      ·cases d
     ·cases d
    ·cases d
   ·cases d
theorem Zu{φ:Nat->Ob}{ops:Array Oper}{K:Env->List Ob->Prop}:∀(l:List Oper),(l.all (vv N))=true->∀ {T:Env} {h:List Ob},Upto φ h.length->wpA P ops K l T h->∀ {w:World} {g:Gh} {a:Act},Rel N B w g (fill φ h) a T->
  ∀ {Q:Exit->Act->World->Prop},(∀C h' w' G,K C h'->Aft N B φ w g h C h' G w'->Q .normal G w')->wpListIn Fence.wide 0 P ops Q l a w
 | [],_,T,h,_,k,w,g,a,r,Q,y=>y _ _ _ _ k (.refl r)
 | o::l,n,T,h,D,k,w,g,a,r,Q,y=>by
   rw[List.all_cons,zq] at n
   have i:Yu P T h o (wpA P ops K l)->o.wpIn Fence.wide 0 P a w (wpListIn Fence.wide 0 P ops Q l) Q:=λk=>
    Yv 0 D n.1 k r λC h' w' G k' q=>by
     have S:=q.len
     obtain⟨g',I,R,H⟩:=q
     exact Zu l n.2 (D.mono S) k' R λO L J a2 k2 F=>y _ _ _ _ k2 (F.trans I H)
   have f:wpA P ops K l (jc T o.dst (.v undef)) h->wpListIn Fence.wide 0 P ops Q l (a.put o.dst undef) w:=λk=>
    Zu l n.2 D k (wV r (Good.refl r.ok r.hB) (x:= .v undef) rfl n.1) λO L J a2 k2 F=>y _ _ _ _ k2 F
   unfold wpA at k
   unfold wpListIn
   split at k
   ·rename_i p
    rw[if_pos (by simp[Region.wanted,p])]
    exact(i k)
   ·rename_i j want p
    split at k
    ·rename_i d m
     have z:yielded ops a.tmps j=match a.tmps[d]? with|some (.bool b)=>some b|_=>none:=by
      simp only[yielded,m,Option.bind_some]
      rfl
     have c:=r.t d
     rw[zV] at c
     split at k
     ·rename_i b A
      rw[A] at c
      have c:(a.tmps[d]?).getD undef= .bool b:=c
      have M:a.tmps[d]? =some (.bool b):=by
       cases e:a.tmps[d]? with
       | none=>rw[e] at c;cases c
       | some u=>rw[e] at c;exact congrArg some c
      rw[M] at z
      by_cases s:b=want
      ·rw[if_pos (by simp[Region.wanted,p,z,s])]
       exact(i (k.1 s))
      ·rw[if_neg (by simp[Region.wanted,p,z,s])]
       exact⟨λ_ _=>trivial,f (k.2 s)⟩
     ·rename_i vs A
      rw[A] at c
      have c:(a.tmps[d]?).getD undef= .tuple vs:=c
      have E:yielded ops a.tmps j=none:=by
       rw[z]
       cases e:a.tmps[d]? with
       | none=>rfl
       | some u=>rw[e] at c;have:u= .tuple vs:=c;subst this;rfl
      rw[if_neg (by simp[Region.wanted,p,E])]
      exact⟨λ_ _=>trivial,f k⟩
     ·exact k.elim
    ·exact k.elim
theorem vHa{id:Nat}{ops:Array Oper}{Q:xV}(b:(ops.toList.all (vv N))=true)(k:wpA P ops (Q .normal) ops.toList T h):AWp P N B (.region id ops false) Q T h:=λφ c w g a r=>
 (wpIn_wide (n:=0)).1 (wpIn_region (by
  rw[List.range_eq_range', <-qF,wpOpsIn_eq_wpListIn ops.toList 0 (by simp)]
  exact Zu ops.toList b c k r λd h' w' e k' q=>⟨d,h',k',q⟩))
end
def Ke(P:Program)(T:Env)(h:List Ob):ResultVar->Option AV
 | .tmp t=>some (T t)
 | .cell a t=>match T a with
   | .ptr id off=>Jx h (zQ P t) (.ptr id off)
   | _=>none
def y8(P:Program)(T:Env)(h:List Ob):List ResultVar->Option (List AV)
 | []=>some []
 | r::rs=>(Ke P T h r).bind λx=>(y8 P T h rs).map (x:: ·)
def Vja:List AV->AV
 | [x]=>x
 | xs=> .tup xs
def VG(P:Program)(T:Env)(h:List Ob)(rs:List ResultVar):Option AV:=
 (y8 P T h rs).map Vja
def xCb(P:Program)(fn:Func)(R:AV->List Ob->Prop):xV
 | .normal,T,h | .ret,T,h=>∃r,VG P T h fn.results.toList=some r/\R r h
 | _,_,_=>False
section
variable {P:Program} {N:Nat} {B:Bs} {T:Env} {h:List Ob}
def ZBa(tmps:Array Value):ResultVar->Sem Value
 | .tmp t=>pure (tmps.getD t undef)
 | .cell b t=>do loadVar t (<-asAddr (tmps.getD b undef))
theorem Yw(fn:Func)(tmps:Array Value):results fn tmps=(do let vs<-fn.results.mapM (ZBa tmps);pure (if h:vs.size=1 then vs[0] else .tuple vs)):=by
 unfold results
 first|rfl|(congr 1;first|done|(congr 1;funext r;cases r<;>rfl))
theorem Q0{B:Nat}{w:World}{g:Gh}{a:Act}(i:HOk B w g h)(hB:B<=w.heap.size)(m:wU (ctx w g h) T a):∀(rs:List ResultVar) (xs:List AV),y8 P T h rs=some xs->
  ∃vs,(rs.mapM (ZBa a.tmps)).run P w= .ok vs w/\ARs (ctx w g h) xs vs
 | [],xs,e=>by injection e with e;subst e;exact⟨[],by simp,rfl⟩
 | r::rs,xs,e=>by
   simp only[y8] at e
   cases c:Ke P T h r with
   | none=>rw[c] at e;cases e
   | some x=>
     rw[c] at e
     simp only[Option.bind_some] at e
     cases l:y8 P T h rs with
     | none=>rw[l] at e;cases e
     | some ys=>
       rw[l] at e
       injection e with e
       subst e
       obtain⟨vs,o,n⟩:=Q0 i hB m rs ys l
       cases r with
       | tmp t=>
         injection c with c
         subst c
         exact⟨a.tmps.getD t undef::vs,by simp only[List.mapM_cons,Sem.run_bind,ZBa,Sem.run_pure,Result.andThen_ok,o],⟨_,_,rfl,m t,n⟩⟩
       | cell b t=>
         simp only[Ke] at c
         split at c
         ·rename_i id off p
          have k:=m b
          rw[p] at k
          obtain⟨v,w',g',y,z,z3⟩:=xBa (P:=P) i hB k c
          have j:a.tmps.getD b undef= .pointer (some ⟨g.β id,off,none⟩):=k.2
          have s:∃v,(loadVar t ⟨g.β id,off,none⟩).run P w= .ok v w/\AR (ctx w g h) x v:=by
           simp only[Jx] at c
           split at c
           ·rename_i ty cs q
            split at c
            ·rename_i u
             obtain⟨v,d,f⟩:=VC (P:=P) u (Yi i q) c
             rw[Addr.add_lit,Nat.zero_add] at d
             exact⟨v,d,f⟩
            ·cases c
           ·cases c
          obtain⟨v,d,f⟩:=s
          exact⟨v::vs,by simp only[List.mapM_cons,Sem.run_bind,ZBa,j,asAddr,Sem.run_pure,Result.andThen_ok,d,o],⟨_,_,rfl,f,n⟩⟩
         ·cases c
theorem Ws{φ:Nat->Ob}:∀(rs:List ResultVar) {xs:List AV},y8 P T h rs=some xs->y8 P T (fill φ h) rs=some xs
 | [],_,e=>e
 | r::rs,xs,e=>by
   simp only[y8] at e⊢
   cases a:Ke P T h r with
   | none=>rw[a] at e;cases e
   | some x=>
     rw[a] at e
     cases c:y8 P T h rs with
     | none=>rw[c] at e;cases e
     | some ys=>
       rw[c] at e
       have:Ke P T (fill φ h) r=some x:=by
        cases r with
        | tmp t=>exact a
        | cell b t=>
          simp only[Ke] at a⊢
          split at a
          ·exact Yr _ a
          ·cases a
       rw[this,Ws rs c]
       exact e
theorem qaa{f:FuncId}{fn:Func}{c:Code}{aZ:List AV}{R:AV->List Ob->Prop}(N:P.funcs[f]? =some fn)(F:fn.body=some c)(J:aZ.length<=fn.ntmps)(D:Ys P f=true)(hex:∃r h',R r h'/\ResK h h')
  (k:∀B:Bs,AWp P fn.ntmps B c (xCb P fn R) (nth aZ) h):ACalls P f aZ h R:=⟨D,hex,λφ I B w g vs L hB a=>by
 have n:=wA a
 refine calls_of_wp N F ?_
 have m:Rel fn.ntmps ⟨B,[]⟩ w g (fill φ h) { tmps:=vs.toArray++Array.replicate (fn.ntmps - vs.toArray.size) undef,defers:=[] } (nth aZ):=by
  refine⟨L,hB,λi=>?_,rfl,by simp;omega⟩
  by_cases hi:i<aZ.length
  ·obtain⟨u,l,j⟩:=yQ a i hi
   have:(vs.toArray++Array.replicate (fn.ntmps - vs.toArray.size) undef).getD i undef=u:=by
    rw[zV,Array.getElem?_append_left (by simp;omega)]
    simp[l]
   simp only[this]
   exact j
  ·have:nth aZ i= .bad:=by
    clear n a k J
    induction aZ generalizing i with
    | nil=>rfl
    | cons x aZ H=>
      cases i with
      | zero=>simp at hi
      | succ i=>exact H i (by simpa using hi)
   rw[this]
   trivial
 refine wp_mono (k ⟨B,[]⟩ φ I w g _ m) λe s w' ⟨E,h',l,g',U,j,O⟩=>?_
 have fin:(∃r,VG P E h' fn.results.toList=some r/\R r h')->s.defers=[]/\∃v,(results fn s.tmps).run P w'= .ok v w'/\∃v' r h'' g'',Ending.returned v= .returned v'/\R r h''/\ResK h h''/\Good B w g (fill φ h) w' g'' (fill φ h'')/\AR (ctx w' g'' (fill φ h'')) r v':=by
  rintro ⟨r,b,S⟩
  refine⟨j.d,?_⟩
  unfold VG at b
  cases z:y8 P E h' fn.results.toList with
  | none=>rw[z] at b;cases b
  | some xs=>
    rw[z] at b
    injection b with b
    obtain⟨us,K,C⟩:=Q0 j.ok j.hB j.t _ xs (Ws _ z)
    have G:(fn.results.mapM (ZBa s.tmps)).run P w'= .ok us.toArray w':=by
     rw[Array.mapM_eq_mapM_toList]
     simp[K]
    have o:(results fn s.tmps).run P w'= .ok (if h:us.toArray.size=1 then us.toArray[0] else .tuple us.toArray) w':=by
     rw[Yw,Sem.run_bind,G]
     rfl
    refine⟨_,o,_,r,h',g',rfl,S,U,O,?_⟩
    have T:=wA C
    unfold Vja at b
    split at b
    ·rename_i x
     subst b
     obtain⟨u,q,M,Q,A⟩:=C
     have A:q=[]:=A
     subst A M
     simpa using Q
    ·rename_i y
     subst b
     rw[dif_neg]
     ·exact⟨us.toArray,rfl,by simpa using C⟩
     ·intro p
      have p:us.length=1:=by simpa using p
      rw[<-T] at p
      match xs,p with
      | [x],_=>exact y x rfl
 cases e with
 | normal=>exact fin l
 | ret=>exact fin l
 | _=>exact l.elim⟩
end
