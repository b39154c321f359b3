import Derived.Test.YtigdlmpjijhpaaaGreatKA
import Derived.Test.YtigdlmpjijhpaaaGreatK02
import Derived.Tactics
import Derived.RangeFuncNested
import Derived.RangeFuncCalls
import Derived.TacticsIn
set_option linter.all false
namespace Go.Proofs.YtigdlmpjijhpaaaGreat.Ax
open Go Go.RowKit
abbrev Env:=Nat->AV
def upd(T:Env)(d:Nat)(x:AV):Env:=λi=>if i=d then x else T i
def qK(T:Env)(d:Option Nat)(x:AV):Env:=match d with
 | some d=>upd T d x
 | none=>T
abbrev jA:=Exit->Env->List Ob->Prop
structure Bs where
 b:Nat
 ds:List Deferred
structure Rel (N:Nat) (B:Bs) (w:World) (g:Gh) (h:List Ob) (a:Act) (T:Env):Prop where
 ok:HOk B.b w g h
 hB:B.b<=w.heap.size
 t:wK (ctx w g h) T a
 d:a.defers=B.ds
 n:a.tmps.size=N
def JF(P:Program)(f:FuncId):Bool:=match P.funcs[f]? with
 | some fn=>fn.name != "runtime.NumGoroutine" && fn.body.isSome
 | none=>false
def Aft(N:Nat)(B:Bs)(φ:Nat->Ob)(w:World)(g:Gh)(h:List Ob)(c:Env)(h':List Ob)(a:Act)(w':World):Prop:=
 ∃g',ResK h h'/\Rel N B w' g' (fill φ h') a c/\Good B.b w g (fill φ h) w' g' (fill φ h')
theorem Qr{B:Nat}{φ:Nat->Ob}{w w':World}{g g':Gh}{h h':List Ob}(k:Good B w g (fill φ h) w' g' (fill φ h')):h.length<=h'.length:=by
 have:=k.le.n;simpa [ctx,qT] using this
theorem Aft.len{N:Nat}{B:Bs}{φ:Nat->Ob}{w w':World}{g:Gh}{h h':List Ob}{b:Env}{a:Act}(k:Aft N B φ w g h b h' a w'):h.length<=h'.length:=by
 obtain⟨g',_,_,k⟩:=k;exact Qr k
theorem Aft.refl{N:Nat}{B:Bs}{φ:Nat->Ob}{w:World}{g:Gh}{h:List Ob}{T:Env}{a:Act}(r:Rel N B w g (fill φ h) a T):Aft N B φ w g h T h a w:=⟨g,.refl,r,Good.refl r.ok r.hB⟩
def ACalls(P:Program)(f:FuncId)(aZ:List AV)(h:List Ob)(R:AV->List Ob->Prop):Prop:=
 JF P f=true/\(∃r h',R r h'/\ResK h h')/\∀(φ:Nat->Ob),Upto φ h.length->∀(B:Nat) (w:World) (g:Gh) (vs:List Value),HOk B w g (fill φ h)->B<=w.heap.size->ARs (ctx w g (fill φ h)) aZ vs->
  Calls P f vs.toArray w λe w'=>∃v r h' g',e= .returned v/\R r h'/\ResK h h'/\Good B w g (fill φ h) w' g' (fill φ h')/\AR (ctx w' g' (fill φ h')) r v
theorem ACalls.mono{P:Program}{f:FuncId}{aZ:List AV}{h:List Ob}{R a:AV->List Ob->Prop}(c:ACalls P f aZ h R)(b:∀r h',R r h'->a r h'):ACalls P f aZ h a:=
 ⟨c.1,let ⟨r,h',q1,q2⟩:=c.2.1;⟨r,h',b _ _ q1,q2⟩,λφ l B w g vs m j k=>(c.2.2 φ l B w g vs m j k).mono λe w' ⟨v,r,h',g',n,d,i⟩=>⟨v,r,h',g',n,b _ _ d,i⟩⟩
def AWp(P:Program)(N:Nat)(B:Bs)(c:Code)(Q:jA)(T:Env)(h:List Ob):Prop:=
 ∀(φ:Nat->Ob),Upto φ h.length->∀(w:World) (g:Gh) (a:Act),Rel N B w g (fill φ h) a T->c.wp P (λe d w'=>∃b h',Q e b h'/\Aft N B φ w g h b h' d w') a w
section
variable {P:Program} {N:Nat} {B:Bs} {Q Q':jA} {T:Env} {h:List Ob} {c c':Code}
theorem AWp.mono(k:AWp P N B c Q T h)(i:∀e T h,Q e T h->Q' e T h):AWp P N B c Q' T h:=
 λφ d w g a r=>wp_mono (k φ d w g a r) λ_ _ _ ⟨f,h',j,b⟩=>⟨f,h',i _ _ _ j,b⟩
theorem Aft.trans{φ:Nat->Ob}{w w' w'':World}{g g':Gh}{h h' h'':List Ob}{a:Env}{c:Act}(f:ResK h h')(k:Good B.b w g (fill φ h) w' g' (fill φ h'))(b:Aft N B φ w' g' h' a h'' c w''):Aft N B φ w g h a h'' c w'':=by
 obtain⟨j,i,e,d⟩:=b
 exact⟨j,f.trans i,e,k.trans d⟩
theorem zDa{d:Env}{h':List Ob}(k:AWp P N B c Q d h')(n:∀(φ:Nat->Ob),Upto φ h.length->∀w g a,Rel N B w g (fill φ h) a T->Aft N B φ w g h d h' a w):AWp P N B c Q T h:=λφ b w g a r=>by
 have e:=n φ b w g a r
 have j:=e.len
 obtain⟨g',q,m,k'⟩:=e
 exact wp_mono (k φ (b.mono j) w g' a m) λ_ _ _ ⟨l,i,o,f⟩=>⟨l,i,o,f.trans q k'⟩
theorem Va{e:Exit}(c:Q e T h){φ:Nat->Ob}{w:World}{g:Gh}{a:Act}(r:Rel N B w g (fill φ h) a T):∃b h',Q e b h'/\Aft N B φ w g h b h' a w:=
 ⟨T,h,c,.refl r⟩
theorem Qs(a:Q .normal T h):AWp P N B .skip Q T h:=λ_ _ _ _ _ r=>wp_skip (Va a r)
theorem vGa{l:Nat}(a:Q .normal T h):AWp P N B (.label l) Q T h:=λ_ _ _ _ _ r=>wp_label (Va a r)
theorem yda{id:Nat}(a:Q (.exit id) T h):AWp P N B (.exit id) Q T h:=λ_ _ _ _ _ r=>wp_exit (Va a r)
theorem QCa(a:Q .ret T h):AWp P N B .ret Q T h:=λ_ _ _ _ _ r=>wp_ret (Va a r)
def wL(next:Env->List Ob->Prop)(Q:jA):jA
 | .normal,T,h=>next T h
 | e,T,h=>Q e T h
def ZL(id:Nat)(Q:jA):jA
 | .exit i,T,h=>if i=id then Q .normal T h else Q (.exit i) T h
 | e,T,h=>Q e T h
theorem Vb(k:AWp P N B c (wL (AWp P N B c' Q) Q) T h):AWp P N B (.seq c c') Q T h:=λφ d w g a r=>by
 refine wp_seq (wp_mono (k φ d w g a r) λe s w' ⟨o,h',f,b⟩=>?_)
 have n:=b.len
 cases e<;>first
  | (obtain⟨g',m,j,i⟩:=b;exact wp_mono (f φ (d.mono n) w' g' s j) λ_ _ _ ⟨p,l,q,t⟩=>⟨p,l,q,t.trans m i⟩)
  | exact⟨o,h',f,b⟩
theorem vU{x:Operand}{t:Bool}(d:ev T x= .v (.bool t))(k1:t=true->AWp P N B c Q T h)(k2:t=false->AWp P N B c' Q T h):AWp P N B (.cond x c c') Q T h:=λφ b w g a r=>
 wp_cond_split (yB r.t d) (λe=>k1 e φ b w g a r) (λe=>k2 e φ b w g a r)
theorem xW{id:Nat}(k:AWp P N B c (ZL id Q) T h):AWp P N B (.block id c) Q T h:=λφ j w g a r=>by
 refine wp_block (wp_mono (k φ j w g a r) λe l w' ⟨f,h',b,d⟩=>?_)
 cases e with
 | exit i=>
   simp only[ZL] at b
   simp only[Exit.inBlock]
   split
   ·rename_i hi;rw[if_pos hi] at b;exact⟨f,h',b,d⟩
   ·rename_i hi;rw[if_neg hi] at b;exact⟨f,h',b,d⟩
 | _=>exact⟨f,h',b,d⟩
theorem least{J:Nat->Prop}(e:∃n,J n):∃n,J n/\∀m,J m->n<=m:=by
 obtain⟨n,g⟩:=e
 induction n using Nat.strongRecOn with
 | _ n c=>
   by_cases b:∃m,m<n/\J m
   ·obtain⟨m,f,d⟩:=b
    exact c m f d
   ·exact⟨n,g,λm h=>Nat.le_of_not_lt λa=>b ⟨m,a,h⟩⟩
theorem Zo(I:Nat->Env->List Ob->Prop)(n:Nat)(h0:I n T h)
  (round:∀n T h,I n T h->AWp P N B c (wL (λf h'=>∃n',n'<n/\I n' f h') Q) T h):AWp P N B (.loop c) Q T h:=λφ E w g a r=>by
 let J:Nat->Act->World->Prop:=λn b w'=>∃f h',I n f h'/\Aft N B φ w g h f h' b w'
 let x:Act->World->Prop:=λb w'=>∃n,J n b w'
 have j:x a w:=⟨n,T,h,h0,.refl r⟩
 classical
 let μ:Act->World->Nat:=λb w'=>if e:∃n,J n b w' then Classical.choose (least e) else 0
 have s:∀b w' (e:∃n,J n b w'),J (μ b w') b w'/\∀m,J m b w'->μ b w'<=m:=λb w' e=>by
  have:μ b w'=Classical.choose (least e):=dif_pos e
  rw[this]
  exact Classical.choose_spec (least e)
 refine wp_loop x μ j λa1 q G=>?_
 obtain⟨K,H,F,o⟩:=(s a1 q G).1
 have z:=o.len
 obtain⟨A,y,D,C⟩:=o
 refine wp_mono (round _ K H F φ (E.mono z) q A a1 D) λe a2 v ⟨u,t,p,d⟩=>?_
 have d:=d.trans y C
 cases e with
 | normal=>
   obtain⟨n',k,i⟩:=p
   have l:J n' a2 v:=⟨u,t,i,d⟩
   exact⟨⟨n',l⟩,Nat.lt_of_le_of_lt ((s a2 v ⟨n',l⟩).2 n' l) k⟩
 | _=>exact⟨u,t,p,d⟩
end
def yf(T:Env)(c:Call):Option (FuncId × List AV):=match c.callee with
 | .value x=>match ev T x with
   | .fn (.func f) a cs=>some (f,a++evl T c.args.toList++cs)
   | _=>none
 | _=>none
def wj(P:Program)(T:Env)(h:List Ob)(o:Oper)(K:Env->List Ob->Prop):Prop:=
 match zW P T h o.op with
 | some (x,h')=>K (qK T o.dst x) h'
 | none=>match o.op with
   | .call c=>match yf T c with
     | some (f,aZ)=>ACalls P f aZ h λr h'=>K (qK T o.dst r) h'
     | none=>False
   | _=>False
def wD(T:Env)(o:Op):Option (Nat × List AV):=match o with
 | .call c=>match c.callee with
   | .value x=>match ev T x with
     | .v (.func (.yield l) a cs)=>if a.isEmpty && cs.isEmpty then some (l,evl T c.args.toList) else none
     | _=>none
   | _=>none
 | _=>none
def Vz(P:Program)(l:Nat)(aZ:List AV)(h:List Ob)(R:List Ob->Prop):Prop:=
 ∀ (φ:Nat->Ob),Upto φ h.length->∀(B:Nat) (w:World) (g:Gh) (vs:List Value),HOk B w g (fill φ h)->B<=w.heap.size->ARs (ctx w g (fill φ h)) aZ vs->
   ∃fn tmps assign body,(Instr.yield l vs.toArray).run P w= .ok (.round l fn tmps assign body) w/\∀m,RoundIn Fence.wide m P l fn tmps assign body w λe w'=>∃h' g',e= .returned (.bool true)/\R h'/\ResK h h'/\Good B w g (fill φ h) w' g' (fill φ h')
def K1(P:Program)(T:Env)(h:List Ob)(o:Oper)(K:Env->List Ob->Prop):Prop:=match wD T o.op with
 | some (l,aZ)=>Vz P l aZ h λh'=>K (qK T o.dst (.v (.bool true))) h'
 | none=>wj P T h o K
def kC(N:Nat)(o:Oper):Bool:=match o.dst with
 | some d=>decide (d<N)
 | none=>true
def wpA(P:Program)(ops:Array Oper)(Q:Env->List Ob->Prop):List Oper->Env->List Ob->Prop
 | [],T,h=>Q T h
 | o::r,T,h=>match o.guard with
   | none=>K1 P T h o (wpA P ops Q r)
   | some (j,a)=>match (ops[j]?).bind (·.dst) with
     | some d=>match T d with
       | .v (.bool b)=>(b=a->K1 P T h o (wpA P ops Q r))/\(b≠a->wpA P ops Q r (qK T o.dst (.v undef)) h)
       | .v (.tuple _)=>wpA P ops Q r (qK T o.dst (.v undef)) h
       | _=>False
     | none=>False
section
variable {P:Program} {N:Nat} {B:Bs} {T:Env} {h:List Ob}
theorem kMa{c:Ctx}{a:Act}{d:Nat}{x:AV}{v:Value}(b:wK c T a)(g:AR c x v)(f:d<a.tmps.size):wK c (upd T d x) { a with tmps:=a.tmps.setIfInBounds d v }:=λi=>by
 simp only[upd,zt]
 split
 ·rename_i e
  subst e
  simpa [Array.getElem?_setIfInBounds,f] using g
 ·rename_i e
  have:=b i
  rw[zt] at this
  rw[Array.getElem?_setIfInBounds_ne (λh=>e h.symm)]
  exact this
theorem kv{w w':World}{g g':Gh}{h':List Ob}{a:Act}{o:Oper}{x:AV}{v:Value}(r:Rel N B w g h a T)(k:Good B.b w g h w' g' h')(j:AR (ctx w' g' h') x v)(f:kC N o=true):Rel N B w' g' h' (a.put o.dst v) (qK T o.dst x):=by
 have c:wK (ctx w' g' h') T a:=λi=>AR.le k.le _ _ (r.t i)
 cases e:o.dst with
 | none=>exact⟨k.ok,k.size,c,r.d,r.n⟩
 | some d=>
   simp only[kC,e,decide_eq_true_eq] at f
   exact⟨k.ok,k.size,kMa c j (by rw[r.n];exact f),r.d,by simp[Act.put,r.n]⟩
theorem VA{φ:Nat->Ob}(G:Upto φ h.length){o:Oper}{K:Env->List Ob->Prop}(C:kC N o=true)(k:wj P T h o K){Q:Exit->Act->World->Prop}{w:World}{g:Gh}{a:Act}(r:Rel N B w g (fill φ h) a T)
  {next:Act->World->Prop} (A:∀I h' w' J,K I h'->Aft N B φ w g h I h' J w'->next J w'):o.wp P a w next Q:=by
 unfold wj at k
 unfold Oper.wp
 split at k
 ·rename_i x h' s
  obtain⟨z,n⟩:=Za G _ s
  obtain⟨nx,v,w',g',y,u,m,H⟩:=zBa r.ok r.hB r.t o z
  rw[y]
  rcases u with rfl|⟨rfl,rfl⟩
  ·exact A _ _ _ _ k ⟨g',n,kv r m H C,m⟩
  ·exact A _ _ _ _ k ⟨g',n,kv r m H C,m⟩
 ·split at k
  ·rename_i c E
   split at k
   ·rename_i f aZ d
    obtain⟨k1,_,k2⟩:=k
    unfold yf at d
    split at d
    ·rename_i X q
     split at d
     ·rename_i F V cs Y
      injection d with d
      injection d with ht1 ht2
      subst ht1 ht2
      have s:=jC r.t X
      rw[Y] at s
      obtain⟨us,vs,y,u,m⟩:=s
      have i:ARs (ctx w g (fill φ h)) (V++evl T c.args.toList++cs) (us.toList++c.args.toList.map a.eval++vs.toList):=jY (jY u (ZK r.t _)) m
      have l:=k2 φ G B.b w g _ r.ok r.hB i
      have j:∃fn,P.funcs[F]? =some fn/\fn.name≠ "runtime.NumGoroutine" /\fn.body.isSome=true:=by
       unfold JF at k1
       split at k1
       ·rename_i fn j
        simp only[zj,bne_iff_ne,ne_eq] at k1
        exact⟨fn,j,k1.1,k1.2⟩
       ·cases k1
      obtain⟨fn,L,f2,O⟩:=j
      have f5:(fn.name== "runtime.NumGoroutine")=false:=by simpa using f2
      have S:fn.body.isNone=false:=by cases Z:fn.body<;>simp[Z] at O⊢
      have p:(execOp a.eval o).run P w= .ok (.enter F (us.toList++c.args.toList.map a.eval++vs.toList).toArray) w:=by
       obtain⟨dst,op,type,pos,after,guard⟩:=o
       simp only at E
       subst E
       simp only[execOp,resolve,q,y,Deferred.ofValue,Sem.run_bind,Sem.run_pure,Result.andThen_ok,invoke,callFunc,run_program,L,S,f5,Bool.false_eq_true,if_false]
       simp
      rw[p]
      refine Calls.mono l λe w' ⟨v,rr,h',g',W,M,R,D,U⟩=>?_
      subst W
      exact A _ _ _ _ M ⟨g',R,kv r D U C,D⟩
     ·cases d
    ·cases d
   ·exact k.elim
  ·exact k.elim
theorem xX(n:Nat){o:Oper}{a:Act}{w:World}{K:Act->World->Prop}{Q:Exit->Act->World->Prop}(h:o.wp P a w K Q):o.wpIn Fence.wide n P a w K Q:=by
 unfold Oper.wp at h
 unfold Oper.wpIn
 refine⟨λ_ _=>trivial,?_⟩
 show o.uponIn Fence.wide n P a K Q ((execOp a.eval o).run P w)
 generalize (execOp a.eval o).run P w=r at h⊢
 have b:∀row args w' (R:Value->World->Prop),Rows P row args w' R->RowsIn Fence.wide (n - 1) P row args w' R:=λrow args w' R h c cs _=>by
  obtain⟨v,e,f,g⟩:=h c cs
  exact⟨v,e,f,stepsIn_wide.2 g⟩
 cases r with
 | ok x w'=>
   cases x<;>first|exact h|exact h.elim|exact⟨λd=>(by cases d),callsIn_wide.2 h⟩|exact⟨λd=>(by cases d),b _ _ _ _ h⟩
 | halt x w'=>
   cases x<;>first|exact h|exact h.elim
theorem JG{φ:Nat->Ob}(n:Nat)(A:Upto φ h.length){o:Oper}{K:Env->List Ob->Prop}(E:kC N o=true)(k:K1 P T h o K){Q:Exit->Act->World->Prop}{w:World}{g:Gh}{a:Act}(r:Rel N B w g (fill φ h) a T)
  {next:Act->World->Prop} (p:∀C h' w' D,K C h'->Aft N B φ w g h C h' D w'->next D w'):o.wpIn Fence.wide n P a w next Q:=by
 unfold K1 at k
 cases d:wD T o.op with
 | none=>rw[d] at k;exact xX n (VA A E k r p)
 | some q=>
   obtain⟨l,ar⟩:=q
   rw[d] at k
   simp only at k
   unfold wD at d
   split at d
   ·rename_i c x
    split at d
    ·rename_i X j
     split at d
     ·rename_i l' z cs J
      split at d
      ·rename_i f
       injection d with d
       injection d with hy1 hy2
       subst hy1 hy2
       rw[zj] at f
       have m:=jC r.t X
       rw[J] at m
       have m:a.eval X= .func (.yield l') z cs:=m
       have s:z= #[]:=by simpa using f.1
       have u:cs= #[]:=by simpa using f.2
       subst s u
       obtain⟨fn,tmps,assign,body,y,G⟩:=k φ A B.b w g _ r.ok r.hB (ZK r.t c.args.toList)
       have i:(execOp a.eval o).run P w= .ok (.round l' fn tmps assign body) w:=by
        obtain⟨dst,op,type,pos,after,guard⟩:=o
        simp only at x
        subst x
        simp only[execOp,resolve,j,m,Deferred.ofValue,Sem.run_bind,Sem.run_pure,Result.andThen_ok,invoke]
        rw[<-Array.toList_map,Array.toArray_toList] at y
        simpa using y
       unfold Oper.wpIn
       refine⟨λ_ _=>trivial,?_⟩
       show o.uponIn Fence.wide n P a next Q ((execOp a.eval o).run P w)
       rw[i,Oper.uponIn_round]
       refine⟨λp=>(by cases p),(G _).mono λe w' ⟨h',g',I,F,H,v⟩=>?_⟩
       subst I
       exact p _ _ _ _ F ⟨g',H,kv r v rfl E,v⟩
      ·cases d
     ·cases d
    ·cases d
   ·cases d
theorem yr{φ:Nat->Ob}{ops:Array Oper}{K:Env->List Ob->Prop}:∀(l:List Oper),(l.all (kC N))=true->∀ {T:Env} {h:List Ob},Upto φ h.length->wpA P ops K l T h->∀ {w:World} {g:Gh} {a:Act},Rel N B w g (fill φ h) a T->
  ∀ {Q:Exit->Act->World->Prop},(∀F h' w' H,K F h'->Aft N B φ w g h F h' H w'->Q .normal H w')->wpListIn Fence.wide 0 P ops Q l a w
 | [],_,T,h,_,k,w,g,a,r,Q,A=>A _ _ _ _ k (.refl r)
 | o::l,s,T,h,E,k,w,g,a,r,Q,A=>by
   rw[List.all_cons,zj] at s
   have i:K1 P T h o (wpA P ops K l)->o.wpIn Fence.wide 0 P a w (wpListIn Fence.wide 0 P ops Q l) Q:=λk=>
    JG 0 E s.1 k r λF h' w' H k' q=>by
     have M:=q.len
     obtain⟨g',R,J,I⟩:=q
     exact yr l s.2 (E.mono M) k' J λS O U a2 k2 D=>A _ _ _ _ k2 (D.trans R I)
   have f:wpA P ops K l (qK T o.dst (.v undef)) h->wpListIn Fence.wide 0 P ops Q l (a.put o.dst undef) w:=λk=>
    yr l s.2 E k (kv r (Good.refl r.ok r.hB) (x:= .v undef) rfl s.1) λS O U a2 k2 D=>A _ _ _ _ k2 D
   unfold wpA at k
   unfold wpListIn
   split at k
   ·rename_i n
    rw[if_pos (by simp[Region.wanted,n])]
    exact(i k)
   ·rename_i j m n
    split at k
    ·rename_i d p
     have z:yielded ops a.tmps j=match a.tmps[d]? with|some (.bool b)=>some b|_=>none:=by
      simp only[yielded,p,Option.bind_some]
      rfl
     have c:=r.t d
     rw[zt] at c
     split at k
     ·rename_i b G
      rw[G] at c
      have c:(a.tmps[d]?).getD undef= .bool b:=c
      have L:a.tmps[d]? =some (.bool b):=by
       cases e:a.tmps[d]? with
       | none=>rw[e] at c;cases c
       | some u=>rw[e] at c;exact congrArg some c
      rw[L] at z
      by_cases y:b=m
      ·rw[if_pos (by simp[Region.wanted,n,z,y])]
       exact(i (k.1 y))
      ·rw[if_neg (by simp[Region.wanted,n,z,y])]
       exact⟨λ_ _=>trivial,f (k.2 y)⟩
     ·rename_i vs G
      rw[G] at c
      have c:(a.tmps[d]?).getD undef= .tuple vs:=c
      have C:yielded ops a.tmps j=none:=by
       rw[z]
       cases e:a.tmps[d]? with
       | none=>rfl
       | some u=>rw[e] at c;have:u= .tuple vs:=c;subst this;rfl
      rw[if_neg (by simp[Region.wanted,n,C])]
      exact⟨λ_ _=>trivial,f k⟩
     ·exact k.elim
    ·exact k.elim
theorem xha{id:Nat}{ops:Array Oper}{Q:jA}(b:(ops.toList.all (kC N))=true)(k:wpA P ops (Q .normal) ops.toList T h):AWp P N B (.region id ops false) Q T h:=λφ d w g a r=>
 (wpIn_wide (n:=0)).1 (wpIn_region (by
  rw[List.range_eq_range', <-qP,wpOpsIn_eq_wpListIn ops.toList 0 (by simp)]
  exact yr ops.toList b d k r λc h' w' e k' q=>⟨c,h',k',q⟩))
end
def JH(P:Program)(T:Env)(h:List Ob):ResultVar->Option AV
 | .tmp t=>some (T t)
 | .cell a t=>match T a with
   | .ptr id off=>Qf h (zE P t) (.ptr id off)
   | _=>none
def wT(P:Program)(T:Env)(h:List Ob):List ResultVar->Option (List AV)
 | []=>some []
 | r::rs=>(JH P T h r).bind λx=>(wT P T h rs).map (x:: ·)
def QDa:List AV->AV
 | [x]=>x
 | xs=> .tup xs
def Zi(P:Program)(T:Env)(h:List Ob)(rs:List ResultVar):Option AV:=
 (wT P T h rs).map QDa
def WOa(P:Program)(fn:Func)(R:AV->List Ob->Prop):jA
 | .normal,T,h | .ret,T,h=>∃r,Zi P T h fn.results.toList=some r/\R r h
 | _,_,_=>False
section
variable {P:Program} {N:Nat} {B:Bs} {T:Env} {h:List Ob}
def vHa(tmps:Array Value):ResultVar->Sem Value
 | .tmp t=>pure (tmps.getD t undef)
 | .cell b t=>do loadVar t (<-asAddr (tmps.getD b undef))
theorem VB(fn:Func)(tmps:Array Value):results fn tmps=(do let vs<-fn.results.mapM (vHa tmps);pure (if h:vs.size=1 then vs[0] else .tuple vs)):=by
 unfold results
 first|rfl|(congr 1;first|done|(congr 1;funext r;cases r<;>rfl))
theorem ZM{B:Nat}{w:World}{g:Gh}{a:Act}(m:HOk B w g h)(hB:B<=w.heap.size)(k:wK (ctx w g h) T a):∀(rs:List ResultVar) (xs:List AV),wT P T h rs=some xs->
  ∃vs,(rs.mapM (vHa a.tmps)).run P w= .ok vs w/\ARs (ctx w g h) xs vs
 | [],xs,e=>by injection e with e;subst e;exact⟨[],by simp,rfl⟩
 | r::rs,xs,e=>by
   simp only[wT] at e
   cases c:JH P T h r with
   | none=>rw[c] at e;cases e
   | some x=>
     rw[c] at e
     simp only[Option.bind_some] at e
     cases f:wT P T h rs with
     | none=>rw[f] at e;cases e
     | some ys=>
       rw[f] at e
       injection e with e
       subst e
       obtain⟨vs,o,n⟩:=ZM m hB k rs ys f
       cases r with
       | tmp t=>
         injection c with c
         subst c
         exact⟨a.tmps.getD t undef::vs,by simp only[List.mapM_cons,Sem.run_bind,vHa,Sem.run_pure,Result.andThen_ok,o],⟨_,_,rfl,k t,n⟩⟩
       | cell b t=>
         simp only[JH] at c
         split at c
         ·rename_i id off s
          have l:=k b
          rw[s] at l
          obtain⟨v,w',g',y,z,z3⟩:=qoa (P:=P) m hB l c
          have j:a.tmps.getD b undef= .pointer (some ⟨g.β id,off,none⟩):=l.2
          have q:∃v,(loadVar t ⟨g.β id,off,none⟩).run P w= .ok v w/\AR (ctx w g h) x v:=by
           simp only[Qf] at c
           split at c
           ·rename_i ty cs u
            split at c
            ·rename_i p
             obtain⟨v,d,i⟩:=XX (P:=P) p (Vp m u) c
             rw[Addr.add_lit,Nat.zero_add] at d
             exact⟨v,d,i⟩
            ·cases c
           ·cases c
          obtain⟨v,d,i⟩:=q
          exact⟨v::vs,by simp only[List.mapM_cons,Sem.run_bind,vHa,j,asAddr,Sem.run_pure,Result.andThen_ok,d,o],⟨_,_,rfl,i,n⟩⟩
         ·cases c
theorem Qt{φ:Nat->Ob}:∀(rs:List ResultVar) {xs:List AV},wT P T h rs=some xs->wT P T (fill φ h) rs=some xs
 | [],_,e=>e
 | r::rs,xs,e=>by
   simp only[wT] at e⊢
   cases a:JH P T h r with
   | none=>rw[a] at e;cases e
   | some x=>
     rw[a] at e
     cases c:wT P T h rs with
     | none=>rw[c] at e;cases e
     | some ys=>
       rw[c] at e
       have:JH P T (fill φ h) r=some x:=by
        cases r with
        | tmp t=>exact a
        | cell b t=>
          simp only[JH] at a⊢
          split at a
          ·exact Vy _ a
          ·cases a
       rw[this,Qt rs c]
       exact e
theorem W3{f:FuncId}{fn:Func}{c:Code}{aZ:List AV}{R:AV->List Ob->Prop}(M:P.funcs[f]? =some fn)(N:fn.body=some c)(O:aZ.length<=fn.ntmps)(C:JF P f=true)(hex:∃r h',R r h'/\ResK h h')
  (k:∀B:Bs,AWp P fn.ntmps B c (WOa P fn R) (nth aZ) h):ACalls P f aZ h R:=⟨C,hex,λφ L B w g vs Q hB a=>by
 have m:=kR a
 refine calls_of_wp M N ?_
 have n:Rel fn.ntmps ⟨B,[]⟩ w g (fill φ h) { tmps:=vs.toArray++Array.replicate (fn.ntmps - vs.toArray.size) undef,defers:=[] } (nth aZ):=by
  refine⟨Q,hB,λi=>?_,rfl,by simp;omega⟩
  by_cases hi:i<aZ.length
  ·obtain⟨u,o,j⟩:=vv a i hi
   have:(vs.toArray++Array.replicate (fn.ntmps - vs.toArray.size) undef).getD i undef=u:=by
    rw[zt,Array.getElem?_append_left (by simp;omega)]
    simp[o]
   simp only[this]
   exact j
  ·have:nth aZ i= .bad:=by
    clear m a k O
    induction aZ generalizing i with
    | nil=>rfl
    | cons x aZ F=>
      cases i with
      | zero=>simp at hi
      | succ i=>exact F i (by simpa using hi)
   rw[this]
   trivial
 refine wp_mono (k ⟨B,[]⟩ φ L w g _ n) λe p w' ⟨E,h',o,g',T,j,S⟩=>?_
 have fin:(∃r,Zi P E h' fn.results.toList=some r/\R r h')->p.defers=[]/\∃v,(results fn p.tmps).run P w'= .ok v w'/\∃v' r h'' g'',Ending.returned v= .returned v'/\R r h''/\ResK h h''/\Good B w g (fill φ h) w' g'' (fill φ h'')/\AR (ctx w' g'' (fill φ h'')) r v':=by
  rintro ⟨r,b,G⟩
  refine⟨j.d,?_⟩
  unfold Zi at b
  cases z:wT P E h' fn.results.toList with
  | none=>rw[z] at b;cases b
  | some xs=>
    rw[z] at b
    injection b with b
    obtain⟨us,I,A⟩:=ZM j.ok j.hB j.t _ xs (Qt _ z)
    have J:(fn.results.mapM (vHa p.tmps)).run P w'= .ok us.toArray w':=by
     rw[Array.mapM_eq_mapM_toList]
     simp[I]
    have l:(results fn p.tmps).run P w'= .ok (if h:us.toArray.size=1 then us.toArray[0] else .tuple us.toArray) w':=by
     rw[VB,Sem.run_bind,J]
     rfl
    refine⟨_,l,_,r,h',g',rfl,G,T,S,?_⟩
    have H:=kR A
    unfold QDa at b
    split at b
    ·rename_i x
     subst b
     obtain⟨u,q,U,K,y⟩:=A
     have y:q=[]:=y
     subst y U
     simpa using K
    ·rename_i D
     subst b
     rw[dif_neg]
     ·exact⟨us.toArray,rfl,by simpa using A⟩
     ·intro s
      have s:us.length=1:=by simpa using s
      rw[<-H] at s
      match xs,s with
      | [x],_=>exact D x rfl
 cases e with
 | normal=>exact fin o
 | ret=>exact fin o
 | _=>exact o.elim⟩
end
