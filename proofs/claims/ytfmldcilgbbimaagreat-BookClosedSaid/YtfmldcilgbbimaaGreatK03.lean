/-
  Joined.
-/
import Derived.Test.YtfmldcilgbbimaaGreatK02
import Derived.Tactics
import Derived.RangeFuncNested
import Derived.RangeFuncCalls
import Derived.TacticsIn
set_option linter.unusedSimpArgs false
set_option linter.unusedVariables false
namespace Go.Proofs.YtfmldcilgbbimaaGreat.Ax
open Go Go.RowKit
abbrev Env:=Nat->AV
def upd (T:Env) (d:Nat) (x:AV):Env:=λi=>if i=d then x else T i
def zZ (T:Env) (d:Option Nat) (x:AV):Env:=match d with
 | some d=>upd T d x
 | none=>T
abbrev jv:=Exit->Env->List Ob->Prop
structure Bs where
 b:Nat
 ds:List Deferred
structure Rel (N:Nat) (B:Bs) (w:World) (g:Gh) (h:List Ob) (a:Act) (T:Env):Prop where
 ok:HOk B.b w g h
 hB:B.b<=w.heap.size
 t:kU (ctx w g h) T a
 d:a.defers=B.ds
 n:a.tmps.size=N
def Vm (P:Program) (f:FuncId):Bool:=match P.funcs[f]? with
 | some fn=>fn.name != "runtime.NumGoroutine" && fn.body.isSome
 | none=>false
def Aft (N:Nat) (B:Bs) (φ:Nat->Ob) (w:World) (g:Gh) (h:List Ob) (a:Env) (h':List Ob) (c:Act) (w':World):Prop:=
 ∃g',ResK h h'/\Rel N B w' g' (fill φ h') c a/\Good B.b w g (fill φ h) w' g' (fill φ h')
theorem wE {B:Nat} {φ:Nat->Ob} {w w':World} {g g':Gh} {h h':List Ob} (k:Good B w g (fill φ h) w' g' (fill φ h')):h.length<=h'.length:=by
 have:=k.le.n;simpa [ctx,qm] using this
theorem Aft.len {N:Nat} {B:Bs} {φ:Nat->Ob} {w w':World} {g:Gh} {h h':List Ob} {a:Env} {b:Act} (k:Aft N B φ w g h a h' b w'):h.length<=h'.length:=by
 obtain ⟨g',_,_,k⟩:=k;exact wE k
theorem Aft.refl {N:Nat} {B:Bs} {φ:Nat->Ob} {w:World} {g:Gh} {h:List Ob} {T:Env} {a:Act} (r:Rel N B w g (fill φ h) a T):Aft N B φ w g h T h a w:=⟨g,.refl,r,Good.refl r.ok r.hB⟩
def ACalls (P:Program) (f:FuncId) (aZ:List AV) (h:List Ob) (R:AV->List Ob->Prop):Prop:=
 Vm P f=true/\(∃r h',R r h'/\ResK h h')/\∀(φ:Nat->Ob),Upto φ h.length->∀(B:Nat) (w:World) (g:Gh) (vs:List Value),HOk B w g (fill φ h)->B<=w.heap.size->ARs (ctx w g (fill φ h)) aZ vs->
  Calls P f vs.toArray w λe w'=>∃v r h' g',e= .returned v/\R r h'/\ResK h h'/\Good B w g (fill φ h) w' g' (fill φ h')/\AR (ctx w' g' (fill φ h')) r v
theorem ACalls.mono {P:Program} {f:FuncId} {aZ:List AV} {h:List Ob} {R b:AV->List Ob->Prop} (c:ACalls P f aZ h R) (a:∀r h',R r h'->b r h'):ACalls P f aZ h b:=
 ⟨c.1,let ⟨r,h',q1,q2⟩:=c.2.1;⟨r,h',a _ _ q1,q2⟩,λφ m B w g vs i d n=>(c.2.2 φ m B w g vs i d n).mono λe w' ⟨v,r,h',g',k,l,j⟩=>⟨v,r,h',g',k,a _ _ l,j⟩⟩
def AWp (P:Program) (N:Nat) (B:Bs) (c:Code) (Q:jv) (T:Env) (h:List Ob):Prop:=
 ∀(φ:Nat->Ob),Upto φ h.length->∀(w:World) (g:Gh) (a:Act),Rel N B w g (fill φ h) a T->c.wp P (λe d w'=>∃b h',Q e b h'/\Aft N B φ w g h b h' d w') a w
section
variable {P:Program} {N:Nat} {B:Bs} {Q Q':jv} {T:Env} {h:List Ob} {c c':Code}
theorem AWp.mono (k:AWp P N B c Q T h) (f:∀e T h,Q e T h->Q' e T h):AWp P N B c Q' T h:=
 λφ j w g a r=>wp_mono (k φ j w g a r) λ_ _ _ ⟨b,h',d,i⟩=>⟨b,h',f _ _ _ d,i⟩
theorem Aft.trans {φ:Nat->Ob} {w w' w'':World} {g g':Gh} {h h' h'':List Ob} {a:Env} {c:Act} (i:ResK h h') (k:Good B.b w g (fill φ h) w' g' (fill φ h')) (b:Aft N B φ w' g' h' a h'' c w''):Aft N B φ w g h a h'' c w'':=by
 obtain ⟨e,d,f,j⟩:=b
 exact ⟨e,i.trans d,f,k.trans j⟩
theorem QKa {d:Env} {h':List Ob} (k:AWp P N B c Q d h') (m:∀(φ:Nat->Ob),Upto φ h.length->∀w g a,Rel N B w g (fill φ h) a T->Aft N B φ w g h d h' a w):AWp P N B c Q T h:=λφ e w g a r=>by
 have b:=m φ e w g a r
 have l:=b.len
 obtain ⟨g',q,i,k'⟩:=b
 exact wp_mono (k φ (e.mono l) w g' a i) λ_ _ _ ⟨j,f,n,o⟩=>⟨j,f,n,o.trans q k'⟩
theorem KZ {e:Exit} (c:Q e T h) {φ:Nat->Ob} {w:World} {g:Gh} {a:Act} (r:Rel N B w g (fill φ h) a T):∃b h',Q e b h'/\Aft N B φ w g h b h' a w:=
 ⟨T,h,c,.refl r⟩
theorem yka (a:Q .normal T h):AWp P N B .skip Q T h:=λ_ _ _ _ _ r=>wp_skip (KZ a r)
theorem vDa {l:Nat} (a:Q .normal T h):AWp P N B (.label l) Q T h:=λ_ _ _ _ _ r=>wp_label (KZ a r)
theorem yla {id:Nat} (a:Q (.exit id) T h):AWp P N B (.exit id) Q T h:=λ_ _ _ _ _ r=>wp_exit (KZ a r)
theorem QLa (a:Q .ret T h):AWp P N B .ret Q T h:=λ_ _ _ _ _ r=>wp_ret (KZ a r)
def vO (next:Env->List Ob->Prop) (Q:jv):jv
 | .normal,T,h=>next T h
 | e,T,h=>Q e T h
def y9 (id:Nat) (Q:jv):jv
 | .exit i,T,h=>if i=id then Q .normal T h else Q (.exit i) T h
 | e,T,h=>Q e T h
theorem yj (k:AWp P N B c (vO (AWp P N B c' Q) Q) T h):AWp P N B (.seq c c') Q T h:=λφ f w g a r=>by
 refine wp_seq (wp_mono (k φ f w g a r) λe s w' ⟨p,h',d,b⟩=>?_)
 have o:=b.len
 cases e<;>first
  | (obtain ⟨g',j,n,t⟩:=b;exact wp_mono (d φ (f.mono o) w' g' s n) λ_ _ _ ⟨m,l,i,q⟩=>⟨m,l,i,q.trans j t⟩)
  | exact ⟨p,h',d,b⟩
theorem yma {x:Operand} {t:Bool} (d:ev T x= .v (.bool t)) (k1:t=true->AWp P N B c Q T h) (k2:t=false->AWp P N B c' Q T h):AWp P N B (.cond x c c') Q T h:=λφ b w g a r=>
 wp_cond_split (wt r.t d) (λe=>k1 e φ b w g a r) (λe=>k2 e φ b w g a r)
theorem XE {id:Nat} (k:AWp P N B c (y9 id Q) T h):AWp P N B (.block id c) Q T h:=λφ l w g a r=>by
 refine wp_block (wp_mono (k φ l w g a r) λe m w' ⟨f,h',b,j⟩=>?_)
 cases e with
 | exit i=>
   simp only[y9] at b
   simp only[Exit.inBlock]
   split
   ·rename_i d;rw[if_pos d] at b;exact ⟨f,h',b,j⟩
   ·rename_i d;rw[if_neg d] at b;exact ⟨f,h',b,j⟩
 | _=>exact ⟨f,h',b,j⟩
theorem least {J:Nat->Prop} (e:∃n,J n):∃n,J n/\∀m,J m->n<=m:=by
 obtain ⟨n,g⟩:=e
 induction n using Nat.strongRecOn with
 | _ n f=>
   by_cases b:∃m,m<n/\J m
   ·obtain ⟨m,d,c⟩:=b
    exact f m d c
   ·exact ⟨n,g,λm h=>Nat.le_of_not_lt λa=>b ⟨m,a,h⟩⟩
theorem qoa (I:Nat->Env->List Ob->Prop) (n:Nat) (h0:I n T h)
  (round:∀n T h,I n T h->AWp P N B c (vO (λd h'=>∃n',n'<n/\I n' d h') Q) T h):AWp P N B (.loop c) Q T h:=λφ C w g a r=>by
 let J:Nat->Act->World->Prop:=λn b w'=>∃d h',I n d h'/\Aft N B φ w g h d h' b w'
 let v:Act->World->Prop:=λb w'=>∃n,J n b w'
 have k:v a w:=⟨n,T,h,h0,.refl r⟩
 classical
 let μ:Act->World->Nat:=λb w'=>if e:∃n,J n b w' then Classical.choose (least e) else 0
 have s:∀b w' (e:∃n,J n b w'),J (μ b w') b w'/\∀m,J m b w'->μ b w'<=m:=λb w' e=>by
  have:μ b w'=Classical.choose (least e):=dif_pos e
  rw[this]
  exact Classical.choose_spec (least e)
 refine wp_loop v μ k λa1 p K=>?_
 obtain ⟨A,H,y,u⟩:=(s a1 p K).1
 have D:=u.len
 obtain ⟨F,E,z,G⟩:=u
 refine wp_mono (round _ A H y φ (C.mono D) p F a1 z) λe a2 q ⟨x,t,o,f⟩=>?_
 have f:=f.trans E G
 cases e with
 | normal=>
   obtain ⟨n',i,j⟩:=o
   have l:J n' a2 q:=⟨x,t,j,f⟩
   exact ⟨⟨n',l⟩,Nat.lt_of_le_of_lt ((s a2 q ⟨n',l⟩).2 n' l) i⟩
 | _=>exact ⟨x,t,o,f⟩
end
def wu (T:Env) (c:Call):Option (FuncId × List AV):=match c.callee with
 | .value x=>match ev T x with
   | .fn (.func f) a cs=>some (f,a++evl T c.args.toList++cs)
   | _=>none
 | _=>none
def vg (P:Program) (T:Env) (h:List Ob) (o:Oper) (K:Env->List Ob->Prop):Prop:=
 match zt P T h o.op with
 | some (x,h')=>K (zZ T o.dst x) h'
 | none=>match o.op with
   | .call c=>match wu T c with
     | some (f,aZ)=>ACalls P f aZ h λr h'=>K (zZ T o.dst r) h'
     | none=>False
   | _=>False
def vH (T:Env) (o:Op):Option (Nat × List AV):=match o with
 | .call c=>match c.callee with
   | .value x=>match ev T x with
     | .v (.func (.yield l) a cs)=>if a.isEmpty && cs.isEmpty then some (l,evl T c.args.toList) else none
     | _=>none
   | _=>none
 | _=>none
def Vn (P:Program) (l:Nat) (aZ:List AV) (h:List Ob) (R:List Ob->Prop):Prop:=
 ∀ (φ:Nat->Ob),Upto φ h.length->∀(B:Nat) (w:World) (g:Gh) (vs:List Value),HOk B w g (fill φ h)->B<=w.heap.size->ARs (ctx w g (fill φ h)) aZ vs->
   ∃fn tmps assign body,(Instr.yield l vs.toArray).run P w= .ok (.round l fn tmps assign body) w/\∀m,RoundIn Fence.wide m P l fn tmps assign body w λe w'=>∃h' g',e= .returned (.bool true)/\R h'/\ResK h h'/\Good B w g (fill φ h) w' g' (fill φ h')
def Vo (P:Program) (T:Env) (h:List Ob) (o:Oper) (K:Env->List Ob->Prop):Prop:=match vH T o.op with
 | some (l,aZ)=>Vn P l aZ h λh'=>K (zZ T o.dst (.v (.bool true))) h'
 | none=>vg P T h o K
def xq (N:Nat) (o:Oper):Bool:=match o.dst with
 | some d=>decide (d<N)
 | none=>true
def wpA (P:Program) (ops:Array Oper) (Q:Env->List Ob->Prop):List Oper->Env->List Ob->Prop
 | [],T,h=>Q T h
 | o::r,T,h=>match o.guard with
   | none=>Vo P T h o (wpA P ops Q r)
   | some (j,a)=>match (ops[j]?).bind (·.dst) with
     | some d=>match T d with
       | .v (.bool b)=>(b=a->Vo P T h o (wpA P ops Q r))/\(b≠a->wpA P ops Q r (zZ T o.dst (.v undef)) h)
       | .v (.tuple _)=>wpA P ops Q r (zZ T o.dst (.v undef)) h
       | _=>False
     | none=>False
section
variable {P:Program} {N:Nat} {B:Bs} {T:Env} {h:List Ob}
theorem kMa {c:Ctx} {a:Act} {d:Nat} {x:AV} {v:Value} (b:kU c T a) (g:AR c x v) (f:d<a.tmps.size):kU c (upd T d x) { a with tmps:=a.tmps.setIfInBounds d v }:=λi=>by
 simp only[upd,Array.getD_eq_getD_getElem?]
 split
 ·rename_i e
  subst e
  simpa [Array.getElem?_setIfInBounds,f] using g
 ·rename_i e
  have:=b i
  rw[Array.getD_eq_getD_getElem?] at this
  rw[Array.getElem?_setIfInBounds_ne (λh=>e h.symm)]
  exact this
theorem kV {w w':World} {g g':Gh} {h':List Ob} {a:Act} {o:Oper} {x:AV} {v:Value} (r:Rel N B w g h a T) (k:Good B.b w g h w' g' h') (j:AR (ctx w' g' h') x v) (c:xq N o=true):Rel N B w' g' h' (a.put o.dst v) (zZ T o.dst x):=by
 have f:kU (ctx w' g' h') T a:=λi=>AR.le k.le _ _ (r.t i)
 cases e:o.dst with
 | none=>exact ⟨k.ok,k.size,f,r.d,r.n⟩
 | some d=>
   simp only[xq,e,decide_eq_true_eq] at c
   exact ⟨k.ok,k.size,kMa f j (by rw[r.n];exact c),r.d,by simp[Act.put,r.n]⟩
theorem Jn {φ:Nat->Ob} (E:Upto φ h.length) {o:Oper} {K:Env->List Ob->Prop} (A:xq N o=true) (k:vg P T h o K) {Q:Exit->Act->World->Prop} {w:World} {g:Gh} {a:Act} (r:Rel N B w g (fill φ h) a T)
  {next:Act->World->Prop} (C:∀D h' w' I,K D h'->Aft N B φ w g h D h' I w'->next I w'):o.wp P a w next Q:=by
 unfold vg at k
 unfold Oper.wp
 split at k
 ·rename_i x h' s
  obtain ⟨z,n⟩:=yi E _ s
  obtain ⟨nx,v,w',g',u,y,m,J⟩:=zja r.ok r.hB r.t o z
  rw[u]
  rcases y with rfl | ⟨rfl,rfl⟩
  ·exact C _ _ _ _ k ⟨g',n,kV r m J A,m⟩
  ·exact C _ _ _ _ k ⟨g',n,kV r m J A,m⟩
 ·split at k
  ·rename_i c H
   split at k
   ·rename_i f aZ d
    obtain ⟨k1,_,k2⟩:=k
    unfold wu at d
    split at d
    ·rename_i X p
     split at d
     ·rename_i F Y cs W
      injection d with d
      injection d with ht1 ht2
      subst ht1 ht2
      have s:=qJ r.t X
      rw[W] at s
      obtain ⟨us,vs,u,y,m⟩:=s
      have j:ARs (ctx w g (fill φ h)) (Y++evl T c.args.toList++cs) (us.toList++c.args.toList.map a.eval++vs.toList):=vj (vj y (Jj r.t _)) m
      have l:=k2 φ E B.b w g _ r.ok r.hB j
      have i:∃fn,P.funcs[F]? =some fn/\fn.name≠ "runtime.NumGoroutine" /\fn.body.isSome=true:=by
       unfold Vm at k1
       split at k1
       ·rename_i fn i
        simp only[Bool.and_eq_true,bne_iff_ne,ne_eq] at k1
        exact ⟨fn,i,k1.1,k1.2⟩
       ·cases k1
      obtain ⟨fn,Z,O,U⟩:=i
      have f5:(fn.name== "runtime.NumGoroutine")=false:=by simpa using O
      have S:fn.body.isNone=false:=by cases V:fn.body<;>simp[V] at U⊢
      have q:(execOp a.eval o).run P w= .ok (.enter F (us.toList++c.args.toList.map a.eval++vs.toList).toArray) w:=by
       obtain ⟨dst,op,type,pos,after,guard⟩:=o
       simp only at H
       subst H
       simp only[execOp,resolve,p,u,Deferred.ofValue,Sem.run_bind,Sem.run_pure,Result.andThen_ok,invoke,callFunc,run_program,Z,S,f5,Bool.false_eq_true,if_false]
       simp
      rw[q]
      refine Calls.mono l λe w' ⟨v,rr,h',g',L,R,qk,G,M⟩=>?_
      subst L
      exact C _ _ _ _ R ⟨g',qk,kV r G M A,G⟩
     ·cases d
    ·cases d
   ·exact k.elim
  ·exact k.elim
theorem yF (n:Nat) {o:Oper} {a:Act} {w:World} {K:Act->World->Prop} {Q:Exit->Act->World->Prop} (h:o.wp P a w K Q):o.wpIn Fence.wide n P a w K Q:=by
 unfold Oper.wp at h
 unfold Oper.wpIn
 refine ⟨λ_ _=>trivial,?_⟩
 show o.uponIn Fence.wide n P a K Q ((execOp a.eval o).run P w)
 generalize (execOp a.eval o).run P w=r at h⊢
 have b:∀row args w' (R:Value->World->Prop),Rows P row args w' R->RowsIn Fence.wide (n - 1) P row args w' R:=λrow args w' R h c cs _=>by
  obtain ⟨v,f,e,g⟩:=h c cs
  exact ⟨v,f,e,stepsIn_wide.2 g⟩
 cases r with
 | ok x w'=>
   cases x<;>first | exact h | exact h.elim | exact ⟨λd=>(by cases d),callsIn_wide.2 h⟩ | exact ⟨λd=>(by cases d),b _ _ _ _ h⟩
 | halt x w'=>
   cases x<;>first | exact h | exact h.elim
theorem Vp {φ:Nat->Ob} (n:Nat) (x:Upto φ h.length) {o:Oper} {K:Env->List Ob->Prop} (E:xq N o=true) (k:Vo P T h o K) {Q:Exit->Act->World->Prop} {w:World} {g:Gh} {a:Act} (r:Rel N B w g (fill φ h) a T)
  {next:Act->World->Prop} (p:∀v h' w' C,K v h'->Aft N B φ w g h v h' C w'->next C w'):o.wpIn Fence.wide n P a w next Q:=by
 unfold Vo at k
 cases d:vH T o.op with
 | none=>rw[d] at k;exact yF n (Jn x E k r p)
 | some q=>
   obtain ⟨l,ar⟩:=q
   rw[d] at k
   simp only at k
   unfold vH at d
   split at d
   ·rename_i c A
    split at d
    ·rename_i X i
     split at d
     ·rename_i l' D cs I
      split at d
      ·rename_i f
       injection d with d
       injection d with hy1 hy2
       subst hy1 hy2
       rw[Bool.and_eq_true] at f
       have m:=qJ r.t X
       rw[I] at m
       have m:a.eval X= .func (.yield l') D cs:=m
       have s:D= #[]:=by simpa using f.1
       have u:cs= #[]:=by simpa using f.2
       subst s u
       obtain ⟨fn,tmps,assign,body,y,H⟩:=k φ x B.b w g _ r.ok r.hB (Jj r.t c.args.toList)
       have j:(execOp a.eval o).run P w= .ok (.round l' fn tmps assign body) w:=by
        obtain ⟨dst,op,type,pos,after,guard⟩:=o
        simp only at A
        subst A
        simp only[execOp,resolve,i,m,Deferred.ofValue,Sem.run_bind,Sem.run_pure,Result.andThen_ok,invoke]
        rw[<-Array.toList_map,Array.toArray_toList] at y
        simpa using y
       unfold Oper.wpIn
       refine ⟨λ_ _=>trivial,?_⟩
       show o.uponIn Fence.wide n P a next Q ((execOp a.eval o).run P w)
       rw[j,Oper.uponIn_round]
       refine ⟨λp=>(by cases p),(H _).mono λe w' ⟨h',g',F,G,J,z⟩=>?_⟩
       subst F
       exact p _ _ _ _ G ⟨g',J,kV r z rfl E,z⟩
      ·cases d
     ·cases d
    ·cases d
   ·cases d
theorem wx {φ:Nat->Ob} {ops:Array Oper} {K:Env->List Ob->Prop}:∀(l:List Oper),(l.all (xq N))=true->∀ {T:Env} {h:List Ob},Upto φ h.length->wpA P ops K l T h->∀ {w:World} {g:Gh} {a:Act},Rel N B w g (fill φ h) a T->
  ∀ {Q:Exit->Act->World->Prop},(∀C h' w' F,K C h'->Aft N B φ w g h C h' F w'->Q .normal F w')->wpListIn Fence.wide 0 P ops Q l a w
 | [],_,T,h,_,k,w,g,a,r,Q,A=>A _ _ _ _ k (.refl r)
 | o::l,n,T,h,D,k,w,g,a,r,Q,A=>by
   rw[List.all_cons,Bool.and_eq_true] at n
   have i:Vo P T h o (wpA P ops K l)->o.wpIn Fence.wide 0 P a w (wpListIn Fence.wide 0 P ops Q l) Q:=λk=>
    Vp 0 D n.1 k r λC h' w' F k' q=>by
     have O:=q.len
     obtain ⟨g',I,M,R⟩:=q
     exact wx l n.2 (D.mono O) k' M λU L J a2 k2 H=>A _ _ _ _ k2 (H.trans I R)
   have f:wpA P ops K l (zZ T o.dst (.v undef)) h->wpListIn Fence.wide 0 P ops Q l (a.put o.dst undef) w:=λk=>
    wx l n.2 D k (kV r (Good.refl r.ok r.hB) (x:= .v undef) rfl n.1) λU L J a2 k2 H=>A _ _ _ _ k2 H
   unfold wpA at k
   unfold wpListIn
   split at k
   ·rename_i p
    rw[if_pos (by simp[Region.wanted,p])]
    exact (i k)
   ·rename_i j m p
    split at k
    ·rename_i d s
     have z:yielded ops a.tmps j=match a.tmps[d]? with | some (.bool b)=>some b | _=>none:=by
      simp only[yielded,s,Option.bind_some]
      rfl
     have c:=r.t d
     rw[Array.getD_eq_getD_getElem?] at c
     split at k
     ·rename_i b E
      rw[E] at c
      have c:(a.tmps[d]?).getD undef= .bool b:=c
      have S:a.tmps[d]? =some (.bool b):=by
       cases e:a.tmps[d]? with
       | none=>rw[e] at c;cases c
       | some u=>rw[e] at c;exact congrArg some c
      rw[S] at z
      by_cases y:b=m
      ·rw[if_pos (by simp[Region.wanted,p,z,y])]
       exact (i (k.1 y))
      ·rw[if_neg (by simp[Region.wanted,p,z,y])]
       exact ⟨λ_ _=>trivial,f (k.2 y)⟩
     ·rename_i vs E
      rw[E] at c
      have c:(a.tmps[d]?).getD undef= .tuple vs:=c
      have G:yielded ops a.tmps j=none:=by
       rw[z]
       cases e:a.tmps[d]? with
       | none=>rfl
       | some u=>rw[e] at c;have:u= .tuple vs:=c;subst this;rfl
      rw[if_neg (by simp[Region.wanted,p,G])]
      exact ⟨λ_ _=>trivial,f k⟩
     ·exact k.elim
    ·exact k.elim
theorem xba {id:Nat} {ops:Array Oper} {Q:jv} (c:(ops.toList.all (xq N))=true) (k:wpA P ops (Q .normal) ops.toList T h):AWp P N B (.region id ops false) Q T h:=λφ d w g a r=>
 (wpIn_wide (n:=0)).1 (wpIn_region (by
  rw[List.range_eq_range', <-Array.length_toList,wpOpsIn_eq_wpListIn ops.toList 0 (by simp)]
  exact wx ops.toList c d k r λb h' w' e k' q=>⟨b,h',k',q⟩))
end
def Jo (P:Program) (T:Env) (h:List Ob):ResultVar->Option AV
 | .tmp t=>some (T t)
 | .cell a t=>match T a with
   | .ptr id off=>ZE h (zl P t) (.ptr id off)
   | _=>none
def vZ (P:Program) (T:Env) (h:List Ob):List ResultVar->Option (List AV)
 | []=>some []
 | r::rs=>(Jo P T h r).bind λx=>(vZ P T h rs).map (x:: ·)
def QMa:List AV->AV
 | [x]=>x
 | xs=> .tup xs
def KR (P:Program) (T:Env) (h:List Ob) (rs:List ResultVar):Option AV:=
 (vZ P T h rs).map QMa
def Yma (P:Program) (fn:Func) (R:AV->List Ob->Prop):jv
 | .normal,T,h | .ret,T,h=>∃r,KR P T h fn.results.toList=some r/\R r h
 | _,_,_=>False
section
variable {P:Program} {N:Nat} {B:Bs} {T:Env} {h:List Ob}
def vEa (tmps:Array Value):ResultVar->Sem Value
 | .tmp t=>pure (tmps.getD t undef)
 | .cell b t=>do loadVar t (<-asAddr (tmps.getD b undef))
theorem Vq (fn:Func) (tmps:Array Value):results fn tmps=(do let vs<-fn.results.mapM (vEa tmps);pure (if h:vs.size=1 then vs[0] else .tuple vs)):=by
 unfold results
 first | rfl | (congr 1;first | done | (congr 1;funext r;cases r<;>rfl))
theorem Za {B:Nat} {w:World} {g:Gh} {a:Act} (j:HOk B w g h) (hB:B<=w.heap.size) (m:kU (ctx w g h) T a):∀(rs:List ResultVar) (xs:List AV),vZ P T h rs=some xs->
  ∃vs,(rs.mapM (vEa a.tmps)).run P w= .ok vs w/\ARs (ctx w g h) xs vs
 | [],xs,e=>by injection e with e;subst e;exact ⟨[],by simp,rfl⟩
 | r::rs,xs,e=>by
   simp only[vZ] at e
   cases c:Jo P T h r with
   | none=>rw[c] at e;cases e
   | some x=>
     rw[c] at e
     simp only[Option.bind_some] at e
     cases i:vZ P T h rs with
     | none=>rw[i] at e;cases e
     | some ys=>
       rw[i] at e
       injection e with e
       subst e
       obtain ⟨vs,n,o⟩:=Za j hB m rs ys i
       cases r with
       | tmp t=>
         injection c with c
         subst c
         exact ⟨a.tmps.getD t undef::vs,by simp only[List.mapM_cons,Sem.run_bind,vEa,Sem.run_pure,Result.andThen_ok,n],⟨_,_,rfl,m t,o⟩⟩
       | cell b t=>
         simp only[Jo] at c
         split at c
         ·rename_i id off q
          have l:=m b
          rw[q] at l
          obtain ⟨v,w',g',y,z,z3⟩:=qfa (P:=P) j hB l c
          have k:a.tmps.getD b undef= .pointer (some ⟨g.β id,off,none⟩):=l.2
          have u:∃v,(loadVar t ⟨g.β id,off,none⟩).run P w= .ok v w/\AR (ctx w g h) x v:=by
           simp only[ZE] at c
           split at c
           ·rename_i ty cs p
            split at c
            ·rename_i s
             obtain ⟨v,d,f⟩:=XB (P:=P) s (Vc j p) c
             rw[Addr.add_lit,Nat.zero_add] at d
             exact ⟨v,d,f⟩
            ·cases c
           ·cases c
          obtain ⟨v,d,f⟩:=u
          exact ⟨v::vs,by simp only[List.mapM_cons,Sem.run_bind,vEa,k,asAddr,Sem.run_pure,Result.andThen_ok,d,n],⟨_,_,rfl,f,o⟩⟩
         ·cases c
theorem Ks {φ:Nat->Ob}:∀(rs:List ResultVar) {xs:List AV},vZ P T h rs=some xs->vZ P T (fill φ h) rs=some xs
 | [],_,e=>e
 | r::rs,xs,e=>by
   simp only[vZ] at e⊢
   cases a:Jo P T h r with
   | none=>rw[a] at e;cases e
   | some x=>
     rw[a] at e
     cases c:vZ P T h rs with
     | none=>rw[c] at e;cases e
     | some ys=>
       rw[c] at e
       have:Jo P T (fill φ h) r=some x:=by
        cases r with
        | tmp t=>exact a
        | cell b t=>
          simp only[Jo] at a⊢
          split at a
          ·exact Vl _ a
          ·cases a
       rw[this,Ks rs c]
       exact e
theorem WU {f:FuncId} {fn:Func} {c:Code} {aZ:List AV} {R:AV->List Ob->Prop} (H:P.funcs[f]? =some fn) (S:fn.body=some c) (U:aZ.length<=fn.ntmps) (A:Vm P f=true) (hex:∃r h',R r h'/\ResK h h')
  (k:∀B:Bs,AWp P fn.ntmps B c (Yma P fn R) (nth aZ) h):ACalls P f aZ h R:=⟨A,hex,λφ M B w g vs V hB a=>by
 have o:=kC a
 refine calls_of_wp H S ?_
 have n:Rel fn.ntmps ⟨B,[]⟩ w g (fill φ h) { tmps:=vs.toArray++Array.replicate (fn.ntmps - vs.toArray.size) undef,defers:=[] } (nth aZ):=by
  refine ⟨V,hB,λi=>?_,rfl,by simp;omega⟩
  by_cases z:i<aZ.length
  ·obtain ⟨u,m,j⟩:=vM a i z
   have:(vs.toArray++Array.replicate (fn.ntmps - vs.toArray.size) undef).getD i undef=u:=by
    rw[Array.getD_eq_getD_getElem?,Array.getElem?_append_left (by simp;omega)]
    simp[m]
   simp only[this]
   exact j
  ·have:nth aZ i= .bad:=by
    clear o a k U
    induction aZ generalizing i with
    | nil=>rfl
    | cons x aZ T=>
      cases i with
      | zero=>simp at z
      | succ i=>exact T i (by simpa using z)
   rw[this]
   trivial
 refine wp_mono (k ⟨B,[]⟩ φ M w g _ n) λe s w' ⟨F,h',m,g',L,j,K⟩=>?_
 have fin:(∃r,KR P F h' fn.results.toList=some r/\R r h')->s.defers=[]/\∃v,(results fn s.tmps).run P w'= .ok v w'/\∃v' r h'' g'',Ending.returned v= .returned v'/\R r h''/\ResK h h''/\Good B w g (fill φ h) w' g'' (fill φ h'')/\AR (ctx w' g'' (fill φ h'')) r v':=by
  rintro ⟨r,b,N⟩
  refine ⟨j.d,?_⟩
  unfold KR at b
  cases D:vZ P F h' fn.results.toList with
  | none=>rw[D] at b;cases b
  | some xs=>
    rw[D] at b
    injection b with b
    obtain ⟨us,I,E⟩:=Za j.ok j.hB j.t _ xs (Ks _ D)
    have J:(fn.results.mapM (vEa s.tmps)).run P w'= .ok us.toArray w':=by
     rw[Array.mapM_eq_mapM_toList]
     simp[I]
    have l:(results fn s.tmps).run P w'= .ok (if h:us.toArray.size=1 then us.toArray[0] else .tuple us.toArray) w':=by
     rw[Vq,Sem.run_bind,J]
     rfl
    refine ⟨_,l,_,r,h',g',rfl,N,L,K,?_⟩
    have Q:=kC E
    unfold QMa at b
    split at b
    ·rename_i x
     subst b
     obtain ⟨u,q,O,G,y⟩:=E
     have y:q=[]:=y
     subst y O
     simpa using G
    ·rename_i C
     subst b
     rw[dif_neg]
     ·exact ⟨us.toArray,rfl,by simpa using E⟩
     ·intro p
      have p:us.length=1:=by simpa using p
      rw[<-Q] at p
      match xs,p with
      | [x],_=>exact C x rfl
 cases e with
 | normal=>exact fin m
 | ret=>exact fin m
 | _=>exact m.elim⟩
end
end Go.Proofs.YtfmldcilgbbimaaGreat.Ax
