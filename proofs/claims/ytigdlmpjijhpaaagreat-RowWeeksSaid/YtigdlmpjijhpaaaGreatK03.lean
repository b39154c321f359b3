/-
  Joined.
-/
import Derived.Test.YtigdlmpjijhpaaaGreatK02
import Derived.Tactics
import Derived.RangeFuncNested
import Derived.RangeFuncCalls
import Derived.TacticsIn
set_option linter.unusedSimpArgs false
set_option linter.unusedVariables false
namespace Go.Proofs.YtigdlmpjijhpaaaGreat.Ax
open Go Go.RowKit
abbrev Env:=Nat->AV
def upd (T:Env) (d:Nat) (x:AV):Env:=λi=>if i=d then x else T i
def zN (T:Env) (d:Option Nat) (x:AV):Env:=match d with
 | some d=>upd T d x
 | none=>T
abbrev jr:=Exit->Env->List Ob->Prop
structure Bs where
 b:Nat
 ds:List Deferred
structure Rel (N:Nat) (B:Bs) (w:World) (g:Gh) (h:List Ob) (a:Act) (T:Env):Prop where
 ok:HOk B.b w g h
 hB:B.b<=w.heap.size
 t:kW (ctx w g h) T a
 d:a.defers=B.ds
 n:a.tmps.size=N
def Xc (P:Program) (f:FuncId):Bool:=match P.funcs[f]? with
 | some fn=>fn.name != "runtime.NumGoroutine" && fn.body.isSome
 | none=>false
def Aft (N:Nat) (B:Bs) (φ:Nat->Ob) (w:World) (g:Gh) (h:List Ob) (a:Env) (h':List Ob) (c:Act) (w':World):Prop:=
 ∃g',ResK h h'/\Rel N B w' g' (fill φ h') c a/\Good B.b w g (fill φ h) w' g' (fill φ h')
theorem Qi {B:Nat} {φ:Nat->Ob} {w w':World} {g g':Gh} {h h':List Ob} (k:Good B w g (fill φ h) w' g' (fill φ h')):h.length<=h'.length:=by
 have:=k.le.n;simpa [ctx,qi] using this
theorem Aft.len {N:Nat} {B:Bs} {φ:Nat->Ob} {w w':World} {g:Gh} {h h':List Ob} {a:Env} {b:Act} (k:Aft N B φ w g h a h' b w'):h.length<=h'.length:=by
 obtain ⟨g',_,_,k⟩:=k;exact Qi k
theorem Aft.refl {N:Nat} {B:Bs} {φ:Nat->Ob} {w:World} {g:Gh} {h:List Ob} {T:Env} {a:Act} (r:Rel N B w g (fill φ h) a T):Aft N B φ w g h T h a w:=⟨g,.refl,r,Good.refl r.ok r.hB⟩
def ACalls (P:Program) (f:FuncId) (aZ:List AV) (h:List Ob) (R:AV->List Ob->Prop):Prop:=
 Xc P f=true/\(∃r h',R r h'/\ResK h h')/\∀(φ:Nat->Ob),Upto φ h.length->∀(B:Nat) (w:World) (g:Gh) (vs:List Value),HOk B w g (fill φ h)->B<=w.heap.size->ARs (ctx w g (fill φ h)) aZ vs->
  Calls P f vs.toArray w λe w'=>∃v r h' g',e= .returned v/\R r h'/\ResK h h'/\Good B w g (fill φ h) w' g' (fill φ h')/\AR (ctx w' g' (fill φ h')) r v
theorem ACalls.mono {P:Program} {f:FuncId} {aZ:List AV} {h:List Ob} {R b:AV->List Ob->Prop} (c:ACalls P f aZ h R) (a:∀r h',R r h'->b r h'):ACalls P f aZ h b:=
 ⟨c.1,let ⟨r,h',q1,q2⟩:=c.2.1;⟨r,h',a _ _ q1,q2⟩,λφ n B w g vs i l d=>(c.2.2 φ n B w g vs i l d).mono λe w' ⟨v,r,h',g',k,j,m⟩=>⟨v,r,h',g',k,a _ _ j,m⟩⟩
def AWp (P:Program) (N:Nat) (B:Bs) (c:Code) (Q:jr) (T:Env) (h:List Ob):Prop:=
 ∀(φ:Nat->Ob),Upto φ h.length->∀(w:World) (g:Gh) (a:Act),Rel N B w g (fill φ h) a T->c.wp P (λe d w'=>∃b h',Q e b h'/\Aft N B φ w g h b h' d w') a w
section
variable {P:Program} {N:Nat} {B:Bs} {Q Q':jr} {T:Env} {h:List Ob} {c c':Code}
theorem AWp.mono (k:AWp P N B c Q T h) (d:∀e T h,Q e T h->Q' e T h):AWp P N B c Q' T h:=
 λφ j w g a r=>wp_mono (k φ j w g a r) λ_ _ _ ⟨i,h',f,b⟩=>⟨i,h',d _ _ _ f,b⟩
theorem Aft.trans {φ:Nat->Ob} {w w' w'':World} {g g':Gh} {h h' h'':List Ob} {c:Env} {a:Act} (f:ResK h h') (k:Good B.b w g (fill φ h) w' g' (fill φ h')) (b:Aft N B φ w' g' h' c h'' a w''):Aft N B φ w g h c h'' a w'':=by
 obtain ⟨i,j,d,e⟩:=b
 exact ⟨i,f.trans j,d,k.trans e⟩
theorem v0a {d:Env} {h':List Ob} (k:AWp P N B c Q d h') (i:∀(φ:Nat->Ob),Upto φ h.length->∀w g a,Rel N B w g (fill φ h) a T->Aft N B φ w g h d h' a w):AWp P N B c Q T h:=λφ e w g a r=>by
 have b:=i φ e w g a r
 have o:=b.len
 obtain ⟨g',q,f,k'⟩:=b
 exact wp_mono (k φ (e.mono o) w g' a f) λ_ _ _ ⟨j,n,m,l⟩=>⟨j,n,m,l.trans q k'⟩
theorem JU {e:Exit} (c:Q e T h) {φ:Nat->Ob} {w:World} {g:Gh} {a:Act} (r:Rel N B w g (fill φ h) a T):∃b h',Q e b h'/\Aft N B φ w g h b h' a w:=
 ⟨T,h,c,.refl r⟩
theorem xJa (a:Q .normal T h):AWp P N B .skip Q T h:=λ_ _ _ _ _ r=>wp_skip (JU a r)
theorem jga {l:Nat} (a:Q .normal T h):AWp P N B (.label l) Q T h:=λ_ _ _ _ _ r=>wp_label (JU a r)
theorem xKa {id:Nat} (a:Q (.exit id) T h):AWp P N B (.exit id) Q T h:=λ_ _ _ _ _ r=>wp_exit (JU a r)
theorem v1a (a:Q .ret T h):AWp P N B .ret Q T h:=λ_ _ _ _ _ r=>wp_ret (JU a r)
def kO (next:Env->List Ob->Prop) (Q:jr):jr
 | .normal,T,h=>next T h
 | e,T,h=>Q e T h
def wT (id:Nat) (Q:jr):jr
 | .exit i,T,h=>if i=id then Q .normal T h else Q (.exit i) T h
 | e,T,h=>Q e T h
theorem JV (k:AWp P N B c (kO (AWp P N B c' Q) Q) T h):AWp P N B (.seq c c') Q T h:=λφ f w g a r=>by
 refine wp_seq (wp_mono (k φ f w g a r) λe l w' ⟨q,h',d,b⟩=>?_)
 have s:=b.len
 cases e<;>first
  | (obtain ⟨g',t,i,o⟩:=b;exact wp_mono (d φ (f.mono s) w' g' l i) λ_ _ _ ⟨j,m,n,p⟩=>⟨j,m,n,p.trans t o⟩)
  | exact ⟨q,h',d,b⟩
theorem xLa {x:Operand} {t:Bool} (d:ev T x= .v (.bool t)) (k1:t=true->AWp P N B c Q T h) (k2:t=false->AWp P N B c' Q T h):AWp P N B (.cond x c c') Q T h:=λφ b w g a r=>
 wp_cond_split (vE r.t d) (λe=>k1 e φ b w g a r) (λe=>k2 e φ b w g a r)
theorem jha {id:Nat} (k:AWp P N B c (wT id Q) T h):AWp P N B (.block id c) Q T h:=λφ l w g a r=>by
 refine wp_block (wp_mono (k φ l w g a r) λe m w' ⟨f,h',b,d⟩=>?_)
 cases e with
 | exit i=>
   simp only[wT] at b
   simp only[Exit.inBlock]
   split
   ·rename_i j;rw[if_pos j] at b;exact ⟨f,h',b,d⟩
   ·rename_i j;rw[if_neg j] at b;exact ⟨f,h',b,d⟩
 | _=>exact ⟨f,h',b,d⟩
theorem least {J:Nat->Prop} (e:∃n,J n):∃n,J n/\∀m,J m->n<=m:=by
 obtain ⟨n,g⟩:=e
 induction n using Nat.strongRecOn with
 | _ n c=>
   by_cases b:∃m,m<n/\J m
   ·obtain ⟨m,f,d⟩:=b
    exact c m f d
   ·exact ⟨n,g,λm h=>Nat.le_of_not_lt λa=>b ⟨m,a,h⟩⟩
theorem xMa (I:Nat->Env->List Ob->Prop) (n:Nat) (h0:I n T h)
  (round:∀n T h,I n T h->AWp P N B c (kO (λd h'=>∃n',n'<n/\I n' d h') Q) T h):AWp P N B (.loop c) Q T h:=λφ A w g a r=>by
 let J:Nat->Act->World->Prop:=λn b w'=>∃d h',I n d h'/\Aft N B φ w g h d h' b w'
 let t:Act->World->Prop:=λb w'=>∃n,J n b w'
 have l:t a w:=⟨n,T,h,h0,.refl r⟩
 classical
 let μ:Act->World->Nat:=λb w'=>if e:∃n,J n b w' then Classical.choose (least e) else 0
 have o:∀b w' (e:∃n,J n b w'),J (μ b w') b w'/\∀m,J m b w'->μ b w'<=m:=λb w' e=>by
  have:μ b w'=Classical.choose (least e):=dif_pos e
  rw[this]
  exact Classical.choose_spec (least e)
 refine wp_loop t μ l λa1 p G=>?_
 obtain ⟨F,y,K,s⟩:=(o a1 p G).1
 have z:=s.len
 obtain ⟨C,H,E,D⟩:=s
 refine wp_mono (round _ F y K φ (A.mono z) p C a1 E) λe a2 q ⟨v,x,u,f⟩=>?_
 have f:=f.trans H D
 cases e with
 | normal=>
   obtain ⟨n',j,k⟩:=u
   have i:J n' a2 q:=⟨v,x,k,f⟩
   exact ⟨⟨n',i⟩,Nat.lt_of_le_of_lt ((o a2 q ⟨n',i⟩).2 n' i) j⟩
 | _=>exact ⟨v,x,u,f⟩
end
def vm (T:Env) (c:Call):Option (FuncId × List AV):=match c.callee with
 | .value x=>match ev T x with
   | .fn (.func f) a b=>some (f,a++evl T c.args.toList++b)
   | _=>none
 | _=>none
def xX (P:Program) (T:Env) (h:List Ob) (o:Oper) (K:Env->List Ob->Prop):Prop:=
 match zn P T h o.op with
 | some (x,h')=>K (zN T o.dst x) h'
 | none=>match o.op with
   | .call c=>match vm T c with
     | some (f,aZ)=>ACalls P f aZ h λr h'=>K (zN T o.dst r) h'
     | none=>False
   | _=>False
def kG (T:Env) (o:Op):Option (Nat × List AV):=match o with
 | .call c=>match c.callee with
   | .value x=>match ev T x with
     | .v (.func (.yield l) a b)=>if a.isEmpty && b.isEmpty then some (l,evl T c.args.toList) else none
     | _=>none
   | _=>none
 | _=>none
def Xd (P:Program) (l:Nat) (aZ:List AV) (h:List Ob) (R:List Ob->Prop):Prop:=
 ∀ (φ:Nat->Ob),Upto φ h.length->∀(B:Nat) (w:World) (g:Gh) (vs:List Value),HOk B w g (fill φ h)->B<=w.heap.size->ARs (ctx w g (fill φ h)) aZ vs->
   ∃fn tmps assign body,(Instr.yield l vs.toArray).run P w= .ok (.round l fn tmps assign body) w/\∀m,RoundIn Fence.wide m P l fn tmps assign body w λe w'=>∃h' g',e= .returned (.bool true)/\R h'/\ResK h h'/\Good B w g (fill φ h) w' g' (fill φ h')
def Xe (P:Program) (T:Env) (h:List Ob) (o:Oper) (K:Env->List Ob->Prop):Prop:=match kG T o.op with
 | some (l,aZ)=>Xd P l aZ h λh'=>K (zN T o.dst (.v (.bool true))) h'
 | none=>xX P T h o K
def vf (N:Nat) (o:Oper):Bool:=match o.dst with
 | some d=>decide (d<N)
 | none=>true
def wpA (P:Program) (ops:Array Oper) (Q:Env->List Ob->Prop):List Oper->Env->List Ob->Prop
 | [],T,h=>Q T h
 | o::r,T,h=>match o.guard with
   | none=>Xe P T h o (wpA P ops Q r)
   | some (j,a)=>match (ops[j]?).bind (·.dst) with
     | some d=>match T d with
       | .v (.bool b)=>(b=a->Xe P T h o (wpA P ops Q r))/\(b≠a->wpA P ops Q r (zN T o.dst (.v undef)) h)
       | .v (.tuple _)=>wpA P ops Q r (zN T o.dst (.v undef)) h
       | _=>False
     | none=>False
section
variable {P:Program} {N:Nat} {B:Bs} {T:Env} {h:List Ob}
theorem qya {c:Ctx} {a:Act} {d:Nat} {x:AV} {v:Value} (g:kW c T a) (b:AR c x v) (f:d<a.tmps.size):kW c (upd T d x) { a with tmps:=a.tmps.setIfInBounds d v }:=λi=>by
 simp only[upd,Array.getD_eq_getD_getElem?]
 split
 ·rename_i e
  subst e
  simpa [Array.getElem?_setIfInBounds,f] using b
 ·rename_i e
  have:=g i
  rw[Array.getD_eq_getD_getElem?] at this
  rw[Array.getElem?_setIfInBounds_ne (λh=>e h.symm)]
  exact this
theorem vn {w w':World} {g g':Gh} {h':List Ob} {a:Act} {o:Oper} {x:AV} {v:Value} (r:Rel N B w g h a T) (k:Good B.b w g h w' g' h') (j:AR (ctx w' g' h') x v) (c:vf N o=true):Rel N B w' g' h' (a.put o.dst v) (zN T o.dst x):=by
 have f:kW (ctx w' g' h') T a:=λi=>AR.le k.le _ _ (r.t i)
 cases e:o.dst with
 | none=>exact ⟨k.ok,k.size,f,r.d,r.n⟩
 | some d=>
   simp only[vf,e,decide_eq_true_eq] at c
   exact ⟨k.ok,k.size,qya f j (by rw[r.n];exact c),r.d,by simp[Act.put,r.n]⟩
theorem Xf {φ:Nat->Ob} (D:Upto φ h.length) {o:Oper} {K:Env->List Ob->Prop} (A:vf N o=true) (k:xX P T h o K) {Q:Exit->Act->World->Prop} {w:World} {g:Gh} {a:Act} (r:Rel N B w g (fill φ h) a T)
  {next:Act->World->Prop} (y:∀J h' w' F,K J h'->Aft N B φ w g h J h' F w'->next F w'):o.wp P a w next Q:=by
 unfold xX at k
 unfold Oper.wp
 split at k
 ·rename_i x h' s
  obtain ⟨C,p⟩:=wl D _ s
  obtain ⟨nx,v,w',g',u,z,m,H⟩:=VG r.ok r.hB r.t o C
  rw[u]
  rcases z with rfl | ⟨rfl,rfl⟩
  ·exact y _ _ _ _ k ⟨g',p,vn r m H A,m⟩
  ·exact y _ _ _ _ k ⟨g',p,vn r m H A,m⟩
 ·split at k
  ·rename_i c E
   split at k
   ·rename_i f aZ d
    obtain ⟨k1,_,k2⟩:=k
    unfold vm at d
    split at d
    ·rename_i X n
     split at d
     ·rename_i G fs Z U
      injection d with d
      injection d with ht1 ht2
      subst ht1 ht2
      have s:=qy r.t X
      rw[U] at s
      obtain ⟨us,vs,u,z,m⟩:=s
      have j:ARs (ctx w g (fill φ h)) (fs++evl T c.args.toList++Z) (us.toList++c.args.toList.map a.eval++vs.toList):=kn (kn z (ZH r.t _)) m
      have i:=k2 φ D B.b w g _ r.ok r.hB j
      have l:∃fn,P.funcs[G]? =some fn/\fn.name≠ "runtime.NumGoroutine" /\fn.body.isSome=true:=by
       unfold Xc at k1
       split at k1
       ·rename_i fn l
        simp only[Bool.and_eq_true,bne_iff_ne,ne_eq] at k1
        exact ⟨fn,l,k1.1,k1.2⟩
       ·cases k1
      obtain ⟨fn,R,S,L⟩:=l
      have f5:(fn.name== "runtime.NumGoroutine")=false:=by simpa using S
      have M:fn.body.isNone=false:=by cases W:fn.body<;>simp[W] at L⊢
      have q:(execOp a.eval o).run P w= .ok (.enter G (us.toList++c.args.toList.map a.eval++vs.toList).toArray) w:=by
       obtain ⟨dst,op,type,pos,after,guard⟩:=o
       simp only at E
       subst E
       simp only[execOp,resolve,n,u,Deferred.ofValue,Sem.run_bind,Sem.run_pure,Result.andThen_ok,invoke,callFunc,run_program,R,M,f5,Bool.false_eq_true,if_false]
       simp
      rw[q]
      refine Calls.mono i λe w' ⟨v,rr,h',g',q1,V,O,I,Y⟩=>?_
      subst q1
      exact y _ _ _ _ V ⟨g',O,vn r I Y A,I⟩
     ·cases d
    ·cases d
   ·exact k.elim
  ·exact k.elim
theorem Zd (n:Nat) {o:Oper} {a:Act} {w:World} {K:Act->World->Prop} {Q:Exit->Act->World->Prop} (h:o.wp P a w K Q):o.wpIn Fence.wide n P a w K Q:=by
 unfold Oper.wp at h
 unfold Oper.wpIn
 refine ⟨λ_ _=>trivial,?_⟩
 show o.uponIn Fence.wide n P a K Q ((execOp a.eval o).run P w)
 generalize (execOp a.eval o).run P w=r at h⊢
 have b:∀row args w' (R:Value->World->Prop),Rows P row args w' R->RowsIn Fence.wide (n - 1) P row args w' R:=λrow args w' R h c f _=>by
  obtain ⟨v,i,e,g⟩:=h c f
  exact ⟨v,i,e,stepsIn_wide.2 g⟩
 cases r with
 | ok x w'=>
   cases x<;>first | exact h | exact h.elim | exact ⟨λd=>(by cases d),callsIn_wide.2 h⟩ | exact ⟨λd=>(by cases d),b _ _ _ _ h⟩
 | halt x w'=>
   cases x<;>first | exact h | exact h.elim
theorem Xg {φ:Nat->Ob} (n:Nat) (x:Upto φ h.length) {o:Oper} {K:Env->List Ob->Prop} (A:vf N o=true) (k:Xe P T h o K) {Q:Exit->Act->World->Prop} {w:World} {g:Gh} {a:Act} (r:Rel N B w g (fill φ h) a T)
  {next:Act->World->Prop} (p:∀E h' w' z,K E h'->Aft N B φ w g h E h' z w'->next z w'):o.wpIn Fence.wide n P a w next Q:=by
 unfold Xe at k
 cases d:kG T o.op with
 | none=>rw[d] at k;exact Zd n (Xf x A k r p)
 | some q=>
   obtain ⟨l,ar⟩:=q
   rw[d] at k
   simp only at k
   unfold kG at d
   split at d
   ·rename_i c y
    split at d
    ·rename_i X i
     split at d
     ·rename_i l' F C I
      split at d
      ·rename_i f
       injection d with d
       injection d with hy1 hy2
       subst hy1 hy2
       rw[Bool.and_eq_true] at f
       have m:=qy r.t X
       rw[I] at m
       have m:a.eval X= .func (.yield l') F C:=m
       have s:F= #[]:=by simpa using f.1
       have u:C= #[]:=by simpa using f.2
       subst s u
       obtain ⟨fn,tmps,assign,body,v,H⟩:=k φ x B.b w g _ r.ok r.hB (ZH r.t c.args.toList)
       have j:(execOp a.eval o).run P w= .ok (.round l' fn tmps assign body) w:=by
        obtain ⟨dst,op,type,pos,after,guard⟩:=o
        simp only at y
        subst y
        simp only[execOp,resolve,i,m,Deferred.ofValue,Sem.run_bind,Sem.run_pure,Result.andThen_ok,invoke]
        rw[<-Array.toList_map,Array.toArray_toList] at v
        simpa using v
       unfold Oper.wpIn
       refine ⟨λ_ _=>trivial,?_⟩
       show o.uponIn Fence.wide n P a next Q ((execOp a.eval o).run P w)
       rw[j,Oper.uponIn_round]
       refine ⟨λp=>(by cases p),(H _).mono λe w' ⟨h',g',L,J,G,D⟩=>?_⟩
       subst L
       exact p _ _ _ _ J ⟨g',G,vn r D rfl A,D⟩
      ·cases d
     ·cases d
    ·cases d
   ·cases d
theorem wB {φ:Nat->Ob} {ops:Array Oper} {K:Env->List Ob->Prop}:∀(l:List Oper),(l.all (vf N))=true->∀ {T:Env} {h:List Ob},Upto φ h.length->wpA P ops K l T h->∀ {w:World} {g:Gh} {a:Act},Rel N B w g (fill φ h) a T->
  ∀ {Q:Exit->Act->World->Prop},(∀G h' w' F,K G h'->Aft N B φ w g h G h' F w'->Q .normal F w')->wpListIn Fence.wide 0 P ops Q l a w
 | [],_,T,h,_,k,w,g,a,r,Q,A=>A _ _ _ _ k (.refl r)
 | o::l,s,T,h,D,k,w,g,a,r,Q,A=>by
   rw[List.all_cons,Bool.and_eq_true] at s
   have i:Xe P T h o (wpA P ops K l)->o.wpIn Fence.wide 0 P a w (wpListIn Fence.wide 0 P ops Q l) Q:=λk=>
    Xg 0 D s.1 k r λG h' w' F k' q=>by
     have I:=q.len
     obtain ⟨g',U,L,R⟩:=q
     exact wB l s.2 (D.mono I) k' L λM O J a2 k2 H=>A _ _ _ _ k2 (H.trans U R)
   have f:wpA P ops K l (zN T o.dst (.v undef)) h->wpListIn Fence.wide 0 P ops Q l (a.put o.dst undef) w:=λk=>
    wB l s.2 D k (vn r (Good.refl r.ok r.hB) (x:= .v undef) rfl s.1) λM O J a2 k2 H=>A _ _ _ _ k2 H
   unfold wpA at k
   unfold wpListIn
   split at k
   ·rename_i n
    rw[if_pos (by simp[Region.wanted,n])]
    exact (i k)
   ·rename_i j m n
    split at k
    ·rename_i d p
     have z:yielded ops a.tmps j=match a.tmps[d]? with | some (.bool b)=>some b | _=>none:=by
      simp only[yielded,p,Option.bind_some]
      rfl
     have c:=r.t d
     rw[Array.getD_eq_getD_getElem?] at c
     split at k
     ·rename_i b E
      rw[E] at c
      have c:(a.tmps[d]?).getD undef= .bool b:=c
      have S:a.tmps[d]? =some (.bool b):=by
       cases e:a.tmps[d]? with
       | none=>rw[e] at c;cases c
       | some u=>rw[e] at c;exact congrArg some c
      rw[S] at z
      by_cases y:b=m
      ·rw[if_pos (by simp[Region.wanted,n,z,y])]
       exact (i (k.1 y))
      ·rw[if_neg (by simp[Region.wanted,n,z,y])]
       exact ⟨λ_ _=>trivial,f (k.2 y)⟩
     ·rename_i vs E
      rw[E] at c
      have c:(a.tmps[d]?).getD undef= .tuple vs:=c
      have C:yielded ops a.tmps j=none:=by
       rw[z]
       cases e:a.tmps[d]? with
       | none=>rfl
       | some u=>rw[e] at c;have:u= .tuple vs:=c;subst this;rfl
      rw[if_neg (by simp[Region.wanted,n,C])]
      exact ⟨λ_ _=>trivial,f k⟩
     ·exact k.elim
    ·exact k.elim
theorem Y8 {id:Nat} {ops:Array Oper} {Q:jr} (c:(ops.toList.all (vf N))=true) (k:wpA P ops (Q .normal) ops.toList T h):AWp P N B (.region id ops false) Q T h:=λφ d w g a r=>
 (wpIn_wide (n:=0)).1 (wpIn_region (by
  rw[List.range_eq_range', <-Array.length_toList,wpOpsIn_eq_wpListIn ops.toList 0 (by simp)]
  exact wB ops.toList c d k r λb h' w' e k' q=>⟨b,h',k',q⟩))
end
def ZL (P:Program) (T:Env) (h:List Ob):ResultVar->Option AV
 | .tmp t=>some (T t)
 | .cell a t=>match T a with
   | .ptr id off=>yw h (zi P t) (.ptr id off)
   | _=>none
def kX (P:Program) (T:Env) (h:List Ob):List ResultVar->Option (List AV)
 | []=>some []
 | r::rs=>(ZL P T h r).bind λx=>(kX P T h rs).map (x:: ·)
def v2a:List AV->AV
 | [x]=>x
 | xs=> .tup xs
def JJ (P:Program) (T:Env) (h:List Ob) (rs:List ResultVar):Option AV:=
 (kX P T h rs).map v2a
def Jza (P:Program) (fn:Func) (R:AV->List Ob->Prop):jr
 | .normal,T,h | .ret,T,h=>∃r,JJ P T h fn.results.toList=some r/\R r h
 | _,_,_=>False
section
variable {P:Program} {N:Nat} {B:Bs} {T:Env} {h:List Ob}
def jia (tmps:Array Value):ResultVar->Sem Value
 | .tmp t=>pure (tmps.getD t undef)
 | .cell b t=>do loadVar t (<-asAddr (tmps.getD b undef))
theorem Xh (fn:Func) (tmps:Array Value):results fn tmps=(do let vs<-fn.results.mapM (jia tmps);pure (if h:vs.size=1 then vs[0] else .tuple vs)):=by
 unfold results
 first | rfl | (congr 1;first | done | (congr 1;funext r;cases r<;>rfl))
theorem wU {B:Nat} {w:World} {g:Gh} {a:Act} (f:HOk B w g h) (hB:B<=w.heap.size) (k:kW (ctx w g h) T a):∀(rs:List ResultVar) (xs:List AV),kX P T h rs=some xs->
  ∃vs,(rs.mapM (jia a.tmps)).run P w= .ok vs w/\ARs (ctx w g h) xs vs
 | [],xs,e=>by injection e with e;subst e;exact ⟨[],by simp,rfl⟩
 | r::rs,xs,e=>by
   simp only[kX] at e
   cases c:ZL P T h r with
   | none=>rw[c] at e;cases e
   | some x=>
     rw[c] at e
     simp only[Option.bind_some] at e
     cases l:kX P T h rs with
     | none=>rw[l] at e;cases e
     | some ys=>
       rw[l] at e
       injection e with e
       subst e
       obtain ⟨vs,o,n⟩:=wU f hB k rs ys l
       cases r with
       | tmp t=>
         injection c with c
         subst c
         exact ⟨a.tmps.getD t undef::vs,by simp only[List.mapM_cons,Sem.run_bind,jia,Sem.run_pure,Result.andThen_ok,o],⟨_,_,rfl,k t,n⟩⟩
       | cell b t=>
         simp only[ZL] at c
         split at c
         ·rename_i id off p
          have j:=k b
          rw[p] at j
          obtain ⟨v,w',g',z,A,z3⟩:=Wq (P:=P) f hB j c
          have i:a.tmps.getD b undef= .pointer (some ⟨g.β id,off,none⟩):=j.2
          have q:∃v,(loadVar t ⟨g.β id,off,none⟩).run P w= .ok v w/\AR (ctx w g h) x v:=by
           simp only[yw] at c
           split at c
           ·rename_i ty y u
            split at c
            ·rename_i s
             obtain ⟨v,d,m⟩:=QI (P:=P) s (J3 f u) c
             rw[Addr.add_lit,Nat.zero_add] at d
             exact ⟨v,d,m⟩
            ·cases c
           ·cases c
          obtain ⟨v,d,m⟩:=q
          exact ⟨v::vs,by simp only[List.mapM_cons,Sem.run_bind,jia,i,asAddr,Sem.run_pure,Result.andThen_ok,d,o],⟨_,_,rfl,m,n⟩⟩
         ·cases c
theorem Jk {φ:Nat->Ob}:∀(rs:List ResultVar) {xs:List AV},kX P T h rs=some xs->kX P T (fill φ h) rs=some xs
 | [],_,e=>e
 | r::rs,xs,e=>by
   simp only[kX] at e⊢
   cases a:ZL P T h r with
   | none=>rw[a] at e;cases e
   | some x=>
     rw[a] at e
     cases c:kX P T h rs with
     | none=>rw[c] at e;cases e
     | some ys=>
       rw[c] at e
       have:ZL P T (fill φ h) r=some x:=by
        cases r with
        | tmp t=>exact a
        | cell b t=>
          simp only[ZL] at a⊢
          split at a
          ·exact Xb _ a
          ·cases a
       rw[this,Jk rs c]
       exact e
theorem Ks {f:FuncId} {fn:Func} {c:Code} {aZ:List AV} {R:AV->List Ob->Prop} (T:P.funcs[f]? =some fn) (L:fn.body=some c) (I:aZ.length<=fn.ntmps) (y:Xc P f=true) (hex:∃r h',R r h'/\ResK h h')
  (k:∀B:Bs,AWp P fn.ntmps B c (Jza P fn R) (nth aZ) h):ACalls P f aZ h R:=⟨y,hex,λφ K B w g vs M hB a=>by
 have n:=xy a
 refine calls_of_wp T L ?_
 have o:Rel fn.ntmps ⟨B,[]⟩ w g (fill φ h) { tmps:=vs.toArray++Array.replicate (fn.ntmps - vs.toArray.size) undef,defers:=[] } (nth aZ):=by
  refine ⟨M,hB,λi=>?_,rfl,by simp;omega⟩
  by_cases D:i<aZ.length
  ·obtain ⟨u,m,j⟩:=kL a i D
   have:(vs.toArray++Array.replicate (fn.ntmps - vs.toArray.size) undef).getD i undef=u:=by
    rw[Array.getD_eq_getD_getElem?,Array.getElem?_append_left (by simp;omega)]
    simp[m]
   simp only[this]
   exact j
  ·have:nth aZ i= .bad:=by
    clear n a k I
    induction aZ generalizing i with
    | nil=>rfl
    | cons x aZ S=>
      cases i with
      | zero=>simp at D
      | succ i=>exact S i (by simpa using D)
   rw[this]
   trivial
 refine wp_mono (k ⟨B,[]⟩ φ K w g _ o) λe s w' ⟨F,h',m,g',Q,j,V⟩=>?_
 have fin:(∃r,JJ P F h' fn.results.toList=some r/\R r h')->s.defers=[]/\∃v,(results fn s.tmps).run P w'= .ok v w'/\∃v' r h'' g'',Ending.returned v= .returned v'/\R r h''/\ResK h h''/\Good B w g (fill φ h) w' g'' (fill φ h'')/\AR (ctx w' g'' (fill φ h'')) r v':=by
  rintro ⟨r,b,N⟩
  refine ⟨j.d,?_⟩
  unfold JJ at b
  cases C:kX P F h' fn.results.toList with
  | none=>rw[C] at b;cases b
  | some xs=>
    rw[C] at b
    injection b with b
    obtain ⟨us,O,E⟩:=wU j.ok j.hB j.t _ xs (Jk _ C)
    have H:(fn.results.mapM (jia s.tmps)).run P w'= .ok us.toArray w':=by
     rw[Array.mapM_eq_mapM_toList]
     simp[O]
    have l:(results fn s.tmps).run P w'= .ok (if h:us.toArray.size=1 then us.toArray[0] else .tuple us.toArray) w':=by
     rw[Xh,Sem.run_bind,H]
     rfl
    refine ⟨_,l,_,r,h',g',rfl,N,Q,V,?_⟩
    have J:=xy E
    unfold v2a at b
    split at b
    ·rename_i x
     subst b
     obtain ⟨u,q,G,U,z⟩:=E
     have z:q=[]:=z
     subst z G
     simpa using U
    ·rename_i A
     subst b
     rw[dif_neg]
     ·exact ⟨us.toArray,rfl,by simpa using E⟩
     ·intro p
      have p:us.length=1:=by simpa using p
      rw[<-J] at p
      match xs,p with
      | [x],_=>exact A x rfl
 cases e with
 | normal=>exact fin m
 | ret=>exact fin m
 | _=>exact m.elim⟩
end
end Go.Proofs.YtigdlmpjijhpaaaGreat.Ax
