/-
  Joined.
-/
import Derived.Test.YtfmldcilgbbimaaGreatK02
import Derived.Tactics
import Derived.RangeFuncNested
import Derived.RangeFuncCalls
import Derived.TacticsIn
set_option linter.unusedSimpArgs false
set_option linter.unusedVariables false
namespace Go.Proofs.YtfmldcilgbbimaaGreat.Ax
open Go Go.RowKit
abbrev Env:=Nat->AV
def upd (T:Env) (d:Nat) (x:AV):Env:=λi=>if i=d then x else T i
def zL (T:Env) (d:Option Nat) (x:AV):Env:=match d with
 | some d=>upd T d x
 | none=>T
abbrev jl:=Exit->Env->List Ob->Prop
structure Bs where
 b:Nat
 ds:List Deferred
structure Rel (N:Nat) (B:Bs) (w:World) (g:Gh) (h:List Ob) (a:Act) (T:Env):Prop where
 ok:HOk B.b w g h
 hB:B.b<=w.heap.size
 t:kN (ctx w g h) T a
 d:a.defers=B.ds
 n:a.tmps.size=N
def J7 (P:Program) (f:FuncId):Bool:=match P.funcs[f]? with
 | some fn=>fn.name != "runtime.NumGoroutine" && fn.body.isSome
 | none=>false
def Aft (N:Nat) (B:Bs) (φ:Nat->Ob) (w:World) (g:Gh) (h:List Ob) (a:Env) (h':List Ob) (c:Act) (w':World):Prop:=
 ∃g',ResK h h'/\Rel N B w' g' (fill φ h') c a/\Good B.b w g (fill φ h) w' g' (fill φ h')
theorem Qb {B:Nat} {φ:Nat->Ob} {w w':World} {g g':Gh} {h h':List Ob} (k:Good B w g (fill φ h) w' g' (fill φ h')):h.length<=h'.length:=by
 have:=k.le.n;simpa [ctx,qc] using this
theorem Aft.len {N:Nat} {B:Bs} {φ:Nat->Ob} {w w':World} {g:Gh} {h h':List Ob} {a:Env} {b:Act} (k:Aft N B φ w g h a h' b w'):h.length<=h'.length:=by
 obtain ⟨g',_,_,k⟩:=k;exact Qb k
theorem Aft.refl {N:Nat} {B:Bs} {φ:Nat->Ob} {w:World} {g:Gh} {h:List Ob} {T:Env} {a:Act} (r:Rel N B w g (fill φ h) a T):Aft N B φ w g h T h a w:=⟨g,.refl,r,Good.refl r.ok r.hB⟩
def ACalls (P:Program) (f:FuncId) (aZ:List AV) (h:List Ob) (R:AV->List Ob->Prop):Prop:=
 J7 P f=true/\(∃r h',R r h'/\ResK h h')/\∀(φ:Nat->Ob),Upto φ h.length->∀(B:Nat) (w:World) (g:Gh) (vs:List Value),HOk B w g (fill φ h)->B<=w.heap.size->ARs (ctx w g (fill φ h)) aZ vs->
  Calls P f vs.toArray w λe w'=>∃v r h' g',e= .returned v/\R r h'/\ResK h h'/\Good B w g (fill φ h) w' g' (fill φ h')/\AR (ctx w' g' (fill φ h')) r v
theorem ACalls.mono {P:Program} {f:FuncId} {aZ:List AV} {h:List Ob} {R b:AV->List Ob->Prop} (c:ACalls P f aZ h R) (a:∀r h',R r h'->b r h'):ACalls P f aZ h b:=
 ⟨c.1,let ⟨r,h',q1,q2⟩:=c.2.1;⟨r,h',a _ _ q1,q2⟩,λφ j B w g vs l d n=>(c.2.2 φ j B w g vs l d n).mono λe w' ⟨v,r,h',g',m,i,k⟩=>⟨v,r,h',g',m,a _ _ i,k⟩⟩
def AWp (P:Program) (N:Nat) (B:Bs) (c:Code) (Q:jl) (T:Env) (h:List Ob):Prop:=
 ∀(φ:Nat->Ob),Upto φ h.length->∀(w:World) (g:Gh) (a:Act),Rel N B w g (fill φ h) a T->c.wp P (λe d w'=>∃b h',Q e b h'/\Aft N B φ w g h b h' d w') a w
section
variable {P:Program} {N:Nat} {B:Bs} {Q Q':jl} {T:Env} {h:List Ob} {c c':Code}
theorem AWp.mono (k:AWp P N B c Q T h) (b:∀e T h,Q e T h->Q' e T h):AWp P N B c Q' T h:=
 λφ f w g a r=>wp_mono (k φ f w g a r) λ_ _ _ ⟨i,h',j,d⟩=>⟨i,h',b _ _ _ j,d⟩
theorem Aft.trans {φ:Nat->Ob} {w w' w'':World} {g g':Gh} {h h' h'':List Ob} {a:Env} {c:Act} (i:ResK h h') (k:Good B.b w g (fill φ h) w' g' (fill φ h')) (b:Aft N B φ w' g' h' a h'' c w''):Aft N B φ w g h a h'' c w'':=by
 obtain ⟨d,j,e,f⟩:=b
 exact ⟨d,i.trans j,e,k.trans f⟩
theorem vFa {e:Env} {h':List Ob} (k:AWp P N B c Q e h') (l:∀(φ:Nat->Ob),Upto φ h.length->∀w g a,Rel N B w g (fill φ h) a T->Aft N B φ w g h e h' a w):AWp P N B c Q T h:=λφ d w g a r=>by
 have b:=l φ d w g a r
 have n:=b.len
 obtain ⟨g',q,i,k'⟩:=b
 exact wp_mono (k φ (d.mono n) w g' a i) λ_ _ _ ⟨o,f,m,j⟩=>⟨o,f,m,j.trans q k'⟩
theorem JN {e:Exit} (c:Q e T h) {φ:Nat->Ob} {w:World} {g:Gh} {a:Act} (r:Rel N B w g (fill φ h) a T):∃b h',Q e b h'/\Aft N B φ w g h b h' a w:=
 ⟨T,h,c,.refl r⟩
theorem xqa (a:Q .normal T h):AWp P N B .skip Q T h:=λ_ _ _ _ _ r=>wp_skip (JN a r)
theorem qZa {l:Nat} (a:Q .normal T h):AWp P N B (.label l) Q T h:=λ_ _ _ _ _ r=>wp_label (JN a r)
theorem xra {id:Nat} (a:Q (.exit id) T h):AWp P N B (.exit id) Q T h:=λ_ _ _ _ _ r=>wp_exit (JN a r)
theorem vGa (a:Q .ret T h):AWp P N B .ret Q T h:=λ_ _ _ _ _ r=>wp_ret (JN a r)
def kH (next:Env->List Ob->Prop) (Q:jl):jl
 | .normal,T,h=>next T h
 | e,T,h=>Q e T h
def wM (id:Nat) (Q:jl):jl
 | .exit i,T,h=>if i=id then Q .normal T h else Q (.exit i) T h
 | e,T,h=>Q e T h
theorem JO (k:AWp P N B c (kH (AWp P N B c' Q) Q) T h):AWp P N B (.seq c c') Q T h:=λφ d w g a r=>by
 refine wp_seq (wp_mono (k φ d w g a r) λe j w' ⟨o,h',f,b⟩=>?_)
 have p:=b.len
 cases e<;>first
  | (obtain ⟨g',q,l,n⟩:=b;exact wp_mono (f φ (d.mono p) w' g' j l) λ_ _ _ ⟨s,i,t,m⟩=>⟨s,i,t,m.trans q n⟩)
  | exact ⟨o,h',f,b⟩
theorem xsa {x:Operand} {t:Bool} (d:ev T x= .v (.bool t)) (k1:t=true->AWp P N B c Q T h) (k2:t=false->AWp P N B c' Q T h):AWp P N B (.cond x c c') Q T h:=λφ b w g a r=>
 wp_cond_split (vu r.t d) (λe=>k1 e φ b w g a r) (λe=>k2 e φ b w g a r)
theorem q0a {id:Nat} (k:AWp P N B c (wM id Q) T h):AWp P N B (.block id c) Q T h:=λφ l w g a r=>by
 refine wp_block (wp_mono (k φ l w g a r) λe m w' ⟨j,h',b,d⟩=>?_)
 cases e with
 | exit i=>
   simp only[wM] at b
   simp only[Exit.inBlock]
   split
   ·rename_i f;rw[if_pos f] at b;exact ⟨j,h',b,d⟩
   ·rename_i f;rw[if_neg f] at b;exact ⟨j,h',b,d⟩
 | _=>exact ⟨j,h',b,d⟩
theorem least {J:Nat->Prop} (e:∃n,J n):∃n,J n/\∀m,J m->n<=m:=by
 obtain ⟨n,g⟩:=e
 induction n using Nat.strongRecOn with
 | _ n d=>
   by_cases b:∃m,m<n/\J m
   ·obtain ⟨m,f,c⟩:=b
    exact d m f c
   ·exact ⟨n,g,λm h=>Nat.le_of_not_lt λa=>b ⟨m,a,h⟩⟩
theorem xta (I:Nat->Env->List Ob->Prop) (n:Nat) (h0:I n T h)
  (round:∀n T h,I n T h->AWp P N B c (kH (λd h'=>∃n',n'<n/\I n' d h') Q) T h):AWp P N B (.loop c) Q T h:=λφ E w g a r=>by
 let J:Nat->Act->World->Prop:=λn b w'=>∃d h',I n d h'/\Aft N B φ w g h d h' b w'
 let q:Act->World->Prop:=λb w'=>∃n,J n b w'
 have i:q a w:=⟨n,T,h,h0,.refl r⟩
 classical
 let μ:Act->World->Nat:=λb w'=>if e:∃n,J n b w' then Classical.choose (least e) else 0
 have x:∀b w' (e:∃n,J n b w'),J (μ b w') b w'/\∀m,J m b w'->μ b w'<=m:=λb w' e=>by
  have:μ b w'=Classical.choose (least e):=dif_pos e
  rw[this]
  exact Classical.choose_spec (least e)
 refine wp_loop q μ i λa1 p H=>?_
 obtain ⟨K,F,G,t⟩:=(x a1 p H).1
 have D:=t.len
 obtain ⟨A,C,y,z⟩:=t
 refine wp_mono (round _ K F G φ (E.mono D) p A a1 y) λe a2 u ⟨v,o,s,f⟩=>?_
 have f:=f.trans C z
 cases e with
 | normal=>
   obtain ⟨n',k,j⟩:=s
   have l:J n' a2 u:=⟨v,o,j,f⟩
   exact ⟨⟨n',l⟩,Nat.lt_of_le_of_lt ((x a2 u ⟨n',l⟩).2 n' l) k⟩
 | _=>exact ⟨v,o,s,f⟩
end
def vf (T:Env) (c:Call):Option (FuncId × List AV):=match c.callee with
 | .value x=>match ev T x with
   | .fn (.func f) a b=>some (f,a++evl T c.args.toList++b)
   | _=>none
 | _=>none
def xS (P:Program) (T:Env) (h:List Ob) (o:Oper) (K:Env->List Ob->Prop):Prop:=
 match zn P T h o.op with
 | some (x,h')=>K (zL T o.dst x) h'
 | none=>match o.op with
   | .call c=>match vf T c with
     | some (f,aZ)=>ACalls P f aZ h λr h'=>K (zL T o.dst r) h'
     | none=>False
   | _=>False
def kA (T:Env) (o:Op):Option (Nat × List AV):=match o with
 | .call c=>match c.callee with
   | .value x=>match ev T x with
     | .v (.func (.yield l) a b)=>if a.isEmpty && b.isEmpty then some (l,evl T c.args.toList) else none
     | _=>none
   | _=>none
 | _=>none
def J8 (P:Program) (l:Nat) (aZ:List AV) (h:List Ob) (R:List Ob->Prop):Prop:=
 ∀ (φ:Nat->Ob),Upto φ h.length->∀(B:Nat) (w:World) (g:Gh) (vs:List Value),HOk B w g (fill φ h)->B<=w.heap.size->ARs (ctx w g (fill φ h)) aZ vs->
   ∃fn tmps assign body,(Instr.yield l vs.toArray).run P w= .ok (.round l fn tmps assign body) w/\∀m,RoundIn Fence.wide m P l fn tmps assign body w λe w'=>∃h' g',e= .returned (.bool true)/\R h'/\ResK h h'/\Good B w g (fill φ h) w' g' (fill φ h')
def J9 (P:Program) (T:Env) (h:List Ob) (o:Oper) (K:Env->List Ob->Prop):Prop:=match kA T o.op with
 | some (l,aZ)=>J8 P l aZ h λh'=>K (zL T o.dst (.v (.bool true))) h'
 | none=>xS P T h o K
def kY (N:Nat) (o:Oper):Bool:=match o.dst with
 | some d=>decide (d<N)
 | none=>true
def wpA (P:Program) (ops:Array Oper) (Q:Env->List Ob->Prop):List Oper->Env->List Ob->Prop
 | [],T,h=>Q T h
 | o::r,T,h=>match o.guard with
   | none=>J9 P T h o (wpA P ops Q r)
   | some (j,a)=>match (ops[j]?).bind (·.dst) with
     | some d=>match T d with
       | .v (.bool b)=>(b=a->J9 P T h o (wpA P ops Q r))/\(b≠a->wpA P ops Q r (zL T o.dst (.v undef)) h)
       | .v (.tuple _)=>wpA P ops Q r (zL T o.dst (.v undef)) h
       | _=>False
     | none=>False
section
variable {P:Program} {N:Nat} {B:Bs} {T:Env} {h:List Ob}
theorem qfa {c:Ctx} {a:Act} {d:Nat} {x:AV} {v:Value} (b:kN c T a) (f:AR c x v) (g:d<a.tmps.size):kN c (upd T d x) { a with tmps:=a.tmps.setIfInBounds d v }:=λi=>by
 simp only[upd,Array.getD_eq_getD_getElem?]
 split
 ·rename_i e
  subst e
  simpa [Array.getElem?_setIfInBounds,g] using f
 ·rename_i e
  have:=b i
  rw[Array.getD_eq_getD_getElem?] at this
  rw[Array.getElem?_setIfInBounds_ne (λh=>e h.symm)]
  exact this
theorem vg {w w':World} {g g':Gh} {h':List Ob} {a:Act} {o:Oper} {x:AV} {v:Value} (r:Rel N B w g h a T) (k:Good B.b w g h w' g' h') (j:AR (ctx w' g' h') x v) (f:kY N o=true):Rel N B w' g' h' (a.put o.dst v) (zL T o.dst x):=by
 have c:kN (ctx w' g' h') T a:=λi=>AR.le k.le _ _ (r.t i)
 cases e:o.dst with
 | none=>exact ⟨k.ok,k.size,c,r.d,r.n⟩
 | some d=>
   simp only[kY,e,decide_eq_true_eq] at f
   exact ⟨k.ok,k.size,qfa c j (by rw[r.n];exact f),r.d,by simp[Act.put,r.n]⟩
theorem Xa {φ:Nat->Ob} (J:Upto φ h.length) {o:Oper} {K:Env->List Ob->Prop} (y:kY N o=true) (k:xS P T h o K) {Q:Exit->Act->World->Prop} {w:World} {g:Gh} {a:Act} (r:Rel N B w g (fill φ h) a T)
  {next:Act->World->Prop} (C:∀D h' w' I,K D h'->Aft N B φ w g h D h' I w'->next I w'):o.wp P a w next Q:=by
 unfold xS at k
 unfold Oper.wp
 split at k
 ·rename_i x h' s
  obtain ⟨z,p⟩:=wc J _ s
  obtain ⟨nx,v,w',g',A,u,m,H⟩:=Vy r.ok r.hB r.t o z
  rw[A]
  rcases u with rfl | ⟨rfl,rfl⟩
  ·exact C _ _ _ _ k ⟨g',p,vg r m H y,m⟩
  ·exact C _ _ _ _ k ⟨g',p,vg r m H y,m⟩
 ·split at k
  ·rename_i c E
   split at k
   ·rename_i f aZ d
    obtain ⟨k1,_,k2⟩:=k
    unfold vf at d
    split at d
    ·rename_i X q
     split at d
     ·rename_i F R cs V
      injection d with d
      injection d with ht1 ht2
      subst ht1 ht2
      have s:=qu r.t X
      rw[V] at s
      obtain ⟨us,vs,A,u,m⟩:=s
      have l:ARs (ctx w g (fill φ h)) (R++evl T c.args.toList++cs) (us.toList++c.args.toList.map a.eval++vs.toList):=xX (xX u (Zz r.t _)) m
      have i:=k2 φ J B.b w g _ r.ok r.hB l
      have j:∃fn,P.funcs[F]? =some fn/\fn.name≠ "runtime.NumGoroutine" /\fn.body.isSome=true:=by
       unfold J7 at k1
       split at k1
       ·rename_i fn j
        simp only[Bool.and_eq_true,bne_iff_ne,ne_eq] at k1
        exact ⟨fn,j,k1.1,k1.2⟩
       ·cases k1
      obtain ⟨fn,U,L,S⟩:=j
      have f5:(fn.name== "runtime.NumGoroutine")=false:=by simpa using L
      have W:fn.body.isNone=false:=by cases Z:fn.body<;>simp[Z] at S⊢
      have n:(execOp a.eval o).run P w= .ok (.enter F (us.toList++c.args.toList.map a.eval++vs.toList).toArray) w:=by
       obtain ⟨dst,op,type,pos,after,guard⟩:=o
       simp only at E
       subst E
       simp only[execOp,resolve,q,A,Deferred.ofValue,Sem.run_bind,Sem.run_pure,Result.andThen_ok,invoke,callFunc,run_program,U,W,f5,Bool.false_eq_true,if_false]
       simp
      rw[n]
      refine Calls.mono i λe w' ⟨v,rr,h',g',q1,Y,O,G,M⟩=>?_
      subst q1
      exact C _ _ _ _ Y ⟨g',O,vg r G M y,G⟩
     ·cases d
    ·cases d
   ·exact k.elim
  ·exact k.elim
theorem yZ (n:Nat) {o:Oper} {a:Act} {w:World} {K:Act->World->Prop} {Q:Exit->Act->World->Prop} (h:o.wp P a w K Q):o.wpIn Fence.wide n P a w K Q:=by
 unfold Oper.wp at h
 unfold Oper.wpIn
 refine ⟨λ_ _=>trivial,?_⟩
 show o.uponIn Fence.wide n P a K Q ((execOp a.eval o).run P w)
 generalize (execOp a.eval o).run P w=r at h⊢
 have b:∀row args w' (R:Value->World->Prop),Rows P row args w' R->RowsIn Fence.wide (n - 1) P row args w' R:=λrow args w' R h c i _=>by
  obtain ⟨v,g,f,e⟩:=h c i
  exact ⟨v,g,f,stepsIn_wide.2 e⟩
 cases r with
 | ok x w'=>
   cases x<;>first | exact h | exact h.elim | exact ⟨λd=>(by cases d),callsIn_wide.2 h⟩ | exact ⟨λd=>(by cases d),b _ _ _ _ h⟩
 | halt x w'=>
   cases x<;>first | exact h | exact h.elim
theorem Xb {φ:Nat->Ob} (n:Nat) (D:Upto φ h.length) {o:Oper} {K:Env->List Ob->Prop} (y:kY N o=true) (k:J9 P T h o K) {Q:Exit->Act->World->Prop} {w:World} {g:Gh} {a:Act} (r:Rel N B w g (fill φ h) a T)
  {next:Act->World->Prop} (p:∀v h' w' C,K v h'->Aft N B φ w g h v h' C w'->next C w'):o.wpIn Fence.wide n P a w next Q:=by
 unfold J9 at k
 cases d:kA T o.op with
 | none=>rw[d] at k;exact yZ n (Xa D y k r p)
 | some q=>
   obtain ⟨l,ar⟩:=q
   rw[d] at k
   simp only at k
   unfold kA at d
   split at d
   ·rename_i c z
    split at d
    ·rename_i X j
     split at d
     ·rename_i l' x F I
      split at d
      ·rename_i f
       injection d with d
       injection d with hy1 hy2
       subst hy1 hy2
       rw[Bool.and_eq_true] at f
       have m:=qu r.t X
       rw[I] at m
       have m:a.eval X= .func (.yield l') x F:=m
       have u:x= #[]:=by simpa using f.1
       have s:F= #[]:=by simpa using f.2
       subst u s
       obtain ⟨fn,tmps,assign,body,E,G⟩:=k φ D B.b w g _ r.ok r.hB (Zz r.t c.args.toList)
       have i:(execOp a.eval o).run P w= .ok (.round l' fn tmps assign body) w:=by
        obtain ⟨dst,op,type,pos,after,guard⟩:=o
        simp only at z
        subst z
        simp only[execOp,resolve,j,m,Deferred.ofValue,Sem.run_bind,Sem.run_pure,Result.andThen_ok,invoke]
        rw[<-Array.toList_map,Array.toArray_toList] at E
        simpa using E
       unfold Oper.wpIn
       refine ⟨λ_ _=>trivial,?_⟩
       show o.uponIn Fence.wide n P a next Q ((execOp a.eval o).run P w)
       rw[i,Oper.uponIn_round]
       refine ⟨λp=>(by cases p),(G _).mono λe w' ⟨h',g',L,J,H,A⟩=>?_⟩
       subst L
       exact p _ _ _ _ J ⟨g',H,vg r A rfl y,A⟩
      ·cases d
     ·cases d
    ·cases d
   ·cases d
theorem wv {φ:Nat->Ob} {ops:Array Oper} {K:Env->List Ob->Prop}:∀(l:List Oper),(l.all (kY N))=true->∀ {T:Env} {h:List Ob},Upto φ h.length->wpA P ops K l T h->∀ {w:World} {g:Gh} {a:Act},Rel N B w g (fill φ h) a T->
  ∀ {Q:Exit->Act->World->Prop},(∀C h' w' F,K C h'->Aft N B φ w g h C h' F w'->Q .normal F w')->wpListIn Fence.wide 0 P ops Q l a w
 | [],_,T,h,_,k,w,g,a,r,Q,z=>z _ _ _ _ k (.refl r)
 | o::l,m,T,h,H,k,w,g,a,r,Q,z=>by
   rw[List.all_cons,Bool.and_eq_true] at m
   have i:J9 P T h o (wpA P ops K l)->o.wpIn Fence.wide 0 P a w (wpListIn Fence.wide 0 P ops Q l) Q:=λk=>
    Xb 0 H m.1 k r λC h' w' F k' q=>by
     have M:=q.len
     obtain ⟨g',S,O,L⟩:=q
     exact wv l m.2 (H.mono M) k' O λU I R a2 k2 D=>z _ _ _ _ k2 (D.trans S L)
   have f:wpA P ops K l (zL T o.dst (.v undef)) h->wpListIn Fence.wide 0 P ops Q l (a.put o.dst undef) w:=λk=>
    wv l m.2 H k (vg r (Good.refl r.ok r.hB) (x:= .v undef) rfl m.1) λU I R a2 k2 D=>z _ _ _ _ k2 D
   unfold wpA at k
   unfold wpListIn
   split at k
   ·rename_i n
    rw[if_pos (by simp[Region.wanted,n])]
    exact (i k)
   ·rename_i j p n
    split at k
    ·rename_i d s
     have y:yielded ops a.tmps j=match a.tmps[d]? with | some (.bool b)=>some b | _=>none:=by
      simp only[yielded,s,Option.bind_some]
      rfl
     have c:=r.t d
     rw[Array.getD_eq_getD_getElem?] at c
     split at k
     ·rename_i b G
      rw[G] at c
      have c:(a.tmps[d]?).getD undef= .bool b:=c
      have J:a.tmps[d]? =some (.bool b):=by
       cases e:a.tmps[d]? with
       | none=>rw[e] at c;cases c
       | some u=>rw[e] at c;exact congrArg some c
      rw[J] at y
      by_cases A:b=p
      ·rw[if_pos (by simp[Region.wanted,n,y,A])]
       exact (i (k.1 A))
      ·rw[if_neg (by simp[Region.wanted,n,y,A])]
       exact ⟨λ_ _=>trivial,f (k.2 A)⟩
     ·rename_i vs G
      rw[G] at c
      have c:(a.tmps[d]?).getD undef= .tuple vs:=c
      have E:yielded ops a.tmps j=none:=by
       rw[y]
       cases e:a.tmps[d]? with
       | none=>rfl
       | some u=>rw[e] at c;have:u= .tuple vs:=c;subst this;rfl
      rw[if_neg (by simp[Region.wanted,n,E])]
      exact ⟨λ_ _=>trivial,f k⟩
     ·exact k.elim
    ·exact k.elim
theorem YP {id:Nat} {ops:Array Oper} {Q:jl} (d:(ops.toList.all (kY N))=true) (k:wpA P ops (Q .normal) ops.toList T h):AWp P N B (.region id ops false) Q T h:=λφ c w g a r=>
 (wpIn_wide (n:=0)).1 (wpIn_region (by
  rw[List.range_eq_range', <-Array.length_toList,wpOpsIn_eq_wpListIn ops.toList 0 (by simp)]
  exact wv ops.toList d c k r λb h' w' e k' q=>⟨b,h',k',q⟩))
end
def ZD (P:Program) (T:Env) (h:List Ob):ResultVar->Option AV
 | .tmp t=>some (T t)
 | .cell a t=>match T a with
   | .ptr id off=>ym h (zi P t) (.ptr id off)
   | _=>none
def kO (P:Program) (T:Env) (h:List Ob):List ResultVar->Option (List AV)
 | []=>some []
 | r::rs=>(ZD P T h r).bind λx=>(kO P T h rs).map (x:: ·)
def vHa:List AV->AV
 | [x]=>x
 | xs=> .tup xs
def JC (P:Program) (T:Env) (h:List Ob) (rs:List ResultVar):Option AV:=
 (kO P T h rs).map vHa
def Q7a (P:Program) (fn:Func) (R:AV->List Ob->Prop):jl
 | .normal,T,h | .ret,T,h=>∃r,JC P T h fn.results.toList=some r/\R r h
 | _,_,_=>False
section
variable {P:Program} {N:Nat} {B:Bs} {T:Env} {h:List Ob}
def q1a (tmps:Array Value):ResultVar->Sem Value
 | .tmp t=>pure (tmps.getD t undef)
 | .cell b t=>do loadVar t (<-asAddr (tmps.getD b undef))
theorem Xc (fn:Func) (tmps:Array Value):results fn tmps=(do let vs<-fn.results.mapM (q1a tmps);pure (if h:vs.size=1 then vs[0] else .tuple vs)):=by
 unfold results
 first | rfl | (congr 1;first | done | (congr 1;funext r;cases r<;>rfl))
theorem wN {B:Nat} {w:World} {g:Gh} {a:Act} (m:HOk B w g h) (hB:B<=w.heap.size) (l:kN (ctx w g h) T a):∀(rs:List ResultVar) (xs:List AV),kO P T h rs=some xs->
  ∃vs,(rs.mapM (q1a a.tmps)).run P w= .ok vs w/\ARs (ctx w g h) xs vs
 | [],xs,e=>by injection e with e;subst e;exact ⟨[],by simp,rfl⟩
 | r::rs,xs,e=>by
   simp only[kO] at e
   cases c:ZD P T h r with
   | none=>rw[c] at e;cases e
   | some x=>
     rw[c] at e
     simp only[Option.bind_some] at e
     cases f:kO P T h rs with
     | none=>rw[f] at e;cases e
     | some ys=>
       rw[f] at e
       injection e with e
       subst e
       obtain ⟨vs,o,n⟩:=wN m hB l rs ys f
       cases r with
       | tmp t=>
         injection c with c
         subst c
         exact ⟨a.tmps.getD t undef::vs,by simp only[List.mapM_cons,Sem.run_bind,q1a,Sem.run_pure,Result.andThen_ok,o],⟨_,_,rfl,l t,n⟩⟩
       | cell b t=>
         simp only[ZD] at c
         split at c
         ·rename_i id off p
          have i:=l b
          rw[p] at i
          obtain ⟨v,w',g',A,y,z3⟩:=Wg (P:=P) m hB i c
          have k:a.tmps.getD b undef= .pointer (some ⟨g.β id,off,none⟩):=i.2
          have q:∃v,(loadVar t ⟨g.β id,off,none⟩).run P w= .ok v w/\AR (ctx w g h) x v:=by
           simp only[ym] at c
           split at c
           ·rename_i ty z s
            split at c
            ·rename_i u
             obtain ⟨v,d,j⟩:=QE (P:=P) u (JY m s) c
             rw[Addr.add_lit,Nat.zero_add] at d
             exact ⟨v,d,j⟩
            ·cases c
           ·cases c
          obtain ⟨v,d,j⟩:=q
          exact ⟨v::vs,by simp only[List.mapM_cons,Sem.run_bind,q1a,k,asAddr,Sem.run_pure,Result.andThen_ok,d,o],⟨_,_,rfl,j,n⟩⟩
         ·cases c
theorem Jf {φ:Nat->Ob}:∀(rs:List ResultVar) {xs:List AV},kO P T h rs=some xs->kO P T (fill φ h) rs=some xs
 | [],_,e=>e
 | r::rs,xs,e=>by
   simp only[kO] at e⊢
   cases a:ZD P T h r with
   | none=>rw[a] at e;cases e
   | some x=>
     rw[a] at e
     cases c:kO P T h rs with
     | none=>rw[c] at e;cases e
     | some ys=>
       rw[c] at e
       have:ZD P T (fill φ h) r=some x:=by
        cases r with
        | tmp t=>exact a
        | cell b t=>
          simp only[ZD] at a⊢
          split at a
          ·exact J6 _ a
          ·cases a
       rw[this,Jf rs c]
       exact e
theorem Kl {f:FuncId} {fn:Func} {c:Code} {aZ:List AV} {R:AV->List Ob->Prop} (K:P.funcs[f]? =some fn) (M:fn.body=some c) (U:aZ.length<=fn.ntmps) (y:J7 P f=true) (hex:∃r h',R r h'/\ResK h h')
  (k:∀B:Bs,AWp P fn.ntmps B c (Q7a P fn R) (nth aZ) h):ACalls P f aZ h R:=⟨y,hex,λφ N B w g vs V hB a=>by
 have l:=xr a
 refine calls_of_wp K M ?_
 have n:Rel fn.ntmps ⟨B,[]⟩ w g (fill φ h) { tmps:=vs.toArray++Array.replicate (fn.ntmps - vs.toArray.size) undef,defers:=[] } (nth aZ):=by
  refine ⟨V,hB,λi=>?_,rfl,by simp;omega⟩
  by_cases A:i<aZ.length
  ·obtain ⟨u,o,j⟩:=kF a i A
   have:(vs.toArray++Array.replicate (fn.ntmps - vs.toArray.size) undef).getD i undef=u:=by
    rw[Array.getD_eq_getD_getElem?,Array.getElem?_append_left (by simp;omega)]
    simp[o]
   simp only[this]
   exact j
  ·have:nth aZ i= .bad:=by
    clear l a k U
    induction aZ generalizing i with
    | nil=>rfl
    | cons x aZ Q=>
      cases i with
      | zero=>simp at A
      | succ i=>exact Q i (by simpa using A)
   rw[this]
   trivial
 refine wp_mono (k ⟨B,[]⟩ φ N w g _ n) λe p w' ⟨F,h',o,g',H,j,S⟩=>?_
 have fin:(∃r,JC P F h' fn.results.toList=some r/\R r h')->p.defers=[]/\∃v,(results fn p.tmps).run P w'= .ok v w'/\∃v' r h'' g'',Ending.returned v= .returned v'/\R r h''/\ResK h h''/\Good B w g (fill φ h) w' g'' (fill φ h'')/\AR (ctx w' g'' (fill φ h'')) r v':=by
  rintro ⟨r,b,L⟩
  refine ⟨j.d,?_⟩
  unfold JC at b
  cases C:kO P F h' fn.results.toList with
  | none=>rw[C] at b;cases b
  | some xs=>
    rw[C] at b
    injection b with b
    obtain ⟨us,J,z⟩:=wN j.ok j.hB j.t _ xs (Jf _ C)
    have O:(fn.results.mapM (q1a p.tmps)).run P w'= .ok us.toArray w':=by
     rw[Array.mapM_eq_mapM_toList]
     simp[J]
    have m:(results fn p.tmps).run P w'= .ok (if h:us.toArray.size=1 then us.toArray[0] else .tuple us.toArray) w':=by
     rw[Xc,Sem.run_bind,O]
     rfl
    refine ⟨_,m,_,r,h',g',rfl,L,H,S,?_⟩
    have I:=xr z
    unfold vHa at b
    split at b
    ·rename_i x
     subst b
     obtain ⟨u,q,T,G,D⟩:=z
     have D:q=[]:=D
     subst D T
     simpa using G
    ·rename_i E
     subst b
     rw[dif_neg]
     ·exact ⟨us.toArray,rfl,by simpa using z⟩
     ·intro s
      have s:us.length=1:=by simpa using s
      rw[<-I] at s
      match xs,s with
      | [x],_=>exact E x rfl
 cases e with
 | normal=>exact fin o
 | ret=>exact fin o
 | _=>exact o.elim⟩
end
end Go.Proofs.YtfmldcilgbbimaaGreat.Ax
