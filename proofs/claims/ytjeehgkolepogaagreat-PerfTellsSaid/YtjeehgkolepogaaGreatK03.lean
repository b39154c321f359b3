import Derived.Test.YtjeehgkolepogaaGreatK02
import Derived.Tactics
import Derived.RangeFuncNested
import Derived.RangeFuncCalls
import Derived.TacticsIn
set_option linter.all false
namespace Go.Proofs.YtjeehgkolepogaaGreat.Ax
open Go Go.RowKit
section
variable{φ:Nat->Ob}{w w':World}{h h':List Ob}{N:Nat}{g:Gh}
abbrev Env:=Nat->AV
def upd(T:Env)(d:Nat)(x:AV):Env:=λi=>if i=d then x else T i
def qG(T:Env)(d:Option Nat)(x:AV):Env:=match d with
 | some d=>upd T d x
 | none=>T
abbrev xk:=Exit->Env->List Ob->Prop
structure Bs where
 b:Nat
 ds:List Deferred
structure Rel (N:Nat) (B:Bs) (w:World) (g:Gh) (h:List Ob) (a:Act) (T:Env):Prop where
 ok:HOk B.b w g h
 hB:B.b<=w.heap.size
 t:wM (ctx w g h) T a
 d:a.defers=B.ds
 n:a.tmps.size=N
def Vu(P:Program)(f:FuncId):Bool:=match P.funcs[f]? with
 | some fn=>fn.name != "runtime.NumGoroutine" && fn.body.isSome
 | none=>false
def Aft(N:Nat)(B:Bs)(φ:Nat->Ob)(w:World)(g:Gh)(h:List Ob)(a:Env)(h':List Ob)(a':Act)(w':World):Prop:=
 ∃g',ResK h h'/\Rel N B w' g' (fill φ h') a' a/\Good B.b w g (fill φ h) w' g' (fill φ h')
def Vv{B:Nat}{g g':Gh}(k:Good B w g (fill φ h) w' g' (fill φ h')):h.length<=h'.length:=by
 have:=k.le.n;simpa [ctx,jH] using this
def Aft.len{B:Bs}{a:Env}{a':Act}(k:Aft N B φ w g h a h' a' w'):h.length<=h'.length:=by
 obtain⟨g',_,_,k⟩:=k;exact Vv k
def Aft.refl{B:Bs}{T:Env}{a:Act}(r:Rel N B w g (fill φ h) a T):Aft N B φ w g h T h a w:=⟨g,.refl,r,Good.refl r.ok r.hB⟩
def ACalls(P:Program)(f:FuncId)(aZ:List AV)(h:List Ob)(R:AV->List Ob->Prop):Prop:=
 Vu P f=true/\(∃r h',R r h'/\ResK h h')/\∀(φ:Nat->Ob),Upto φ h.length->∀(B:Nat) (w:World) (g:Gh) (vs:List Value),HOk B w g (fill φ h)->B<=w.heap.size->ARs (ctx w g (fill φ h)) aZ vs->
  Calls P f vs.toArray w λe w'=>∃v r h' g',e= .returned v/\R r h'/\ResK h h'/\Good B w g (fill φ h) w' g' (fill φ h')/\AR (ctx w' g' (fill φ h')) r v
def ACalls.mono{P:Program}{f:FuncId}{aZ:List AV}{R a:AV->List Ob->Prop}(c:ACalls P f aZ h R)(b:∀r h',R r h'->a r h'):ACalls P f aZ h a:=
 ⟨c.1,let ⟨r,h',q1,q2⟩:=c.2.1;⟨r,h',b _ _ q1,q2⟩,λφ n B w g vs i m j=>(c.2.2 φ n B w g vs i m j).mono λe w' ⟨v,r,h',g',l,k,d⟩=>⟨v,r,h',g',l,b _ _ k,d⟩⟩
def AWp(P:Program)(N:Nat)(B:Bs)(c:Code)(Q:xk)(T:Env)(h:List Ob):Prop:=
 ∀(φ:Nat->Ob),Upto φ h.length->∀(w:World) (g:Gh) (a:Act),Rel N B w g (fill φ h) a T->c.wp P (λe a' w'=>∃b h',Q e b h'/\Aft N B φ w g h b h' a' w') a w
section
variable {P:Program} {N:Nat} {B:Bs} {Q Q':xk} {T:Env} {h:List Ob} {c c':Code}
def AWp.mono(k:AWp P N B c Q T h)(b:∀e T h,Q e T h->Q' e T h):AWp P N B c Q' T h:=
 λφ j w g a r=>wp_mono (k φ j w g a r) λ_ _ _ ⟨d,h',i,f⟩=>⟨d,h',b _ _ _ i,f⟩
def Aft.trans{φ:Nat->Ob}{w w' w'':World}{g g':Gh}{h h' h'':List Ob}{c:Env}{a:Act}(j:ResK h h')(k:Good B.b w g (fill φ h) w' g' (fill φ h'))(b:Aft N B φ w' g' h' c h'' a w''):Aft N B φ w g h c h'' a w'':=by
 obtain⟨i,d,f,e⟩:=b;exact⟨i,j.trans d,f,k.trans e⟩
def xMa{d:Env}{h':List Ob}(k:AWp P N B c Q d h')(f:∀(φ:Nat->Ob),Upto φ h.length->∀w g a,Rel N B w g (fill φ h) a T->Aft N B φ w g h d h' a w):AWp P N B c Q T h:=λφ e w g a r=>by
 have b:=f φ e w g a r;have i:=b.len;obtain⟨g',q,j,k'⟩:=b;exact wp_mono (k φ (e.mono i) w g' a j) λ_ _ _ ⟨o,n,m,l⟩=>⟨o,n,m,l.trans q k'⟩
def Jg{e:Exit}(c:Q e T h){φ:Nat->Ob}{w:World}{g:Gh}{a:Act}(r:Rel N B w g (fill φ h) a T):∃b h',Q e b h'/\Aft N B φ w g h b h' a w:=
 ⟨T,h,c,.refl r⟩
def qGa(a:Q .normal T h):AWp P N B .skip Q T h:=λ_ _ _ _ _ r=>wp_skip (Jg a r)
def zwa{l:Nat}(a:Q .normal T h):AWp P N B (.label l) Q T h:=λ_ _ _ _ _ r=>wp_label (Jg a r)
def qHa{id:Nat}(a:Q (.exit id) T h):AWp P N B (.exit id) Q T h:=λ_ _ _ _ _ r=>wp_exit (Jg a r)
def xNa(a:Q .ret T h):AWp P N B .ret Q T h:=λ_ _ _ _ _ r=>wp_ret (Jg a r)
def wZ(next:Env->List Ob->Prop)(Q:xk):xk
 | .normal,T,h=>next T h
 | e,T,h=>Q e T h
def ZI(id:Nat)(Q:xk):xk
 | .exit i,T,h=>if i=id then Q .normal T h else Q (.exit i) T h
 | e,T,h=>Q e T h
def xOa(k:AWp P N B c (wZ (AWp P N B c' Q) Q) T h):AWp P N B (.seq c c') Q T h:=λφ f w g a r=>by
 refine wp_seq (wp_mono (k φ f w g a r) λe a' w' ⟨p,h',d,b⟩=>?_);have j:=b.len
 cases e<;>first
  | (obtain⟨g',i,m,n⟩:=b;exact wp_mono (d φ (f.mono j) w' g' a' m) λ_ _ _ ⟨s,l,o,q⟩=>⟨s,l,o,q.trans i n⟩)
  | exact⟨p,h',d,b⟩
def qIa{x:Operand}{t:Bool}(d:ev T x= .v (.bool t))(k1:t=true->AWp P N B c Q T h)(k2:t=false->AWp P N B c' Q T h):AWp P N B (.cond x c c') Q T h:=λφ b w g a r=>
 wp_cond_split (wl r.t d) (λe=>k1 e φ b w g a r) (λe=>k2 e φ b w g a r)
def zxa{id:Nat}(k:AWp P N B c (ZI id Q) T h):AWp P N B (.block id c) Q T h:=λφ j w g a r=>by
 refine wp_block (wp_mono (k φ j w g a r) λe a' w' ⟨d,h',b,f⟩=>?_);cases e with
 | exit i=>
   simp only[ZI] at b;simp only[Exit.inBlock];split
   ·rename_i hi;rw[if_pos hi] at b;exact⟨d,h',b,f⟩
   ·rename_i hi;rw[if_neg hi] at b;exact⟨d,h',b,f⟩
 | _=>exact⟨d,h',b,f⟩
def least{J:Nat->Prop}(e:∃n,J n):∃n,J n/\∀m,J m->n<=m:=by
 obtain⟨n,d⟩:=e
 induction n using Nat.strongRecOn with
 | _ n f=>
   by_cases b:∃m,m<n/\J m
   ·obtain⟨m,c,g⟩:=b;exact f m c g
   ·exact⟨n,d,λm h=>Nat.le_of_not_lt λa=>b ⟨m,a,h⟩⟩
def awp_loop(I:Nat->Env->List Ob->Prop)(n:Nat)(h0:I n T h)
    (round:∀n T h,I n T h->AWp P N B c (wZ (λd h'=>∃n',n'<n/\I n' d h') Q) T h):AWp P N B (.loop c) Q T h:=λφ C w g a r=>by
 let J:Nat->Act->World->Prop:=λn a' w'=>∃d h',I n d h'/\Aft N B φ w g h d h' a' w';let o:Act->World->Prop:=λa' w'=>∃n,J n a' w';have f:o a w:=⟨n,T,h,h0,.refl r⟩
 classical
 let μ:Act->World->Nat:=λa' w'=>if e:∃n,J n a' w' then Classical.choose (least e) else 0
 have u:∀a' w' (e:∃n,J n a' w'),J (μ a' w') a' w'/\∀m,J m a' w'->μ a' w'<=m:=λa' w' e=>by
  have:μ a' w'=Classical.choose (least e):=dif_pos e;rw[this];exact Classical.choose_spec (least e)
 refine wp_loop o μ f λa1 p E=>?_;obtain⟨z,D,G,q⟩:=(u a1 p E).1;have x:=q.len;obtain⟨A,H,y,F⟩:=q;refine wp_mono (round _ z D G φ (C.mono x) p A a1 y) λe a2 l ⟨v,t,s,b⟩=>?_;have b:=b.trans H F;cases e with
 | normal=>
   obtain⟨n',j,i⟩:=s;have k:J n' a2 l:=⟨v,t,i,b⟩;exact⟨⟨n',k⟩,Nat.lt_of_le_of_lt ((u a2 l ⟨n',k⟩).2 n' k) j⟩
 | _=>exact⟨v,t,s,b⟩
end
def vS(T:Env)(c:Call):Option (FuncId × List AV):=match c.callee with
 | .value x=>match ev T x with
   | .fn (.func f) a b=>some (f,a++evl T c.args.toList++b)
   | _=>none
 | _=>none
def vf(P:Program)(T:Env)(h:List Ob)(o:Oper)(K:Env->List Ob->Prop):Prop:=
 match zO P T h o.op with
 | some (x,h')=>K (qG T o.dst x) h'
 | none=>match o.op with
   | .call c=>match vS T c with
     | some (f,aZ)=>ACalls P f aZ h λr h'=>K (qG T o.dst r) h'
     | none=>False
   | _=>False
def vT(T:Env)(o:Op):Option (Nat × List AV):=match o with
 | .call c=>match c.callee with
   | .value x=>match ev T x with
     | .v (.func (.yield l) a b)=>if a.isEmpty && b.isEmpty then some (l,evl T c.args.toList) else none
     | _=>none
   | _=>none
 | _=>none
def WC(P:Program)(l:Nat)(aZ:List AV)(h:List Ob)(R:List Ob->Prop):Prop:=
 ∀ (φ:Nat->Ob),Upto φ h.length->∀(B:Nat) (w:World) (g:Gh) (vs:List Value),HOk B w g (fill φ h)->B<=w.heap.size->ARs (ctx w g (fill φ h)) aZ vs->
   ∃fn tmps assign body,(Instr.yield l vs.toArray).run P w= .ok (.round l fn tmps assign body) w/\∀m,RoundIn Fence.wide m P l fn tmps assign body w λe w'=>∃h' g',e= .returned (.bool true)/\R h'/\ResK h h'/\Good B w g (fill φ h) w' g' (fill φ h')
def Xw(P:Program)(T:Env)(h:List Ob)(o:Oper)(K:Env->List Ob->Prop):Prop:=match vT T o.op with
 | some (l,aZ)=>WC P l aZ h λh'=>K (qG T o.dst (.v (.bool true))) h'
 | none=>vf P T h o K
def wF(N:Nat)(o:Oper):Bool:=match o.dst with
 | some d=>decide (d<N)
 | none=>true
def wpA(P:Program)(ops:Array Oper)(Q:Env->List Ob->Prop):List Oper->Env->List Ob->Prop
 | [],T,h=>Q T h
 | o::r,T,h=>match o.guard with
   | none=>Xw P T h o (wpA P ops Q r)
   | some (j,a)=>match (ops[j]?).bind (·.dst) with
     | some d=>match T d with
       | .v (.bool b)=>(b=a->Xw P T h o (wpA P ops Q r))/\(b≠a->wpA P ops Q r (qG T o.dst (.v undef)) h)
       | .v (.tuple _)=>wpA P ops Q r (qG T o.dst (.v undef)) h
       | _=>False
     | none=>False
section
variable {P:Program} {N:Nat} {B:Bs} {T:Env} {h:List Ob}
def xPa{c:Ctx}{a:Act}{d:Nat}{x:AV}{v:Value}(g:wM c T a)(f:AR c x v)(b:d<a.tmps.size):wM c (upd T d x) { a with tmps:=a.tmps.setIfInBounds d v }:=λi=>by
 simp only[upd,qf];split
 ·rename_i e;subst e;simpa [Array.getElem?_setIfInBounds,b] using f
 ·rename_i e;have:=g i;rw[qf] at this;rw[Array.getElem?_setIfInBounds_ne (λh=>e h.symm)];exact this
def yl{w w':World}{g g':Gh}{h':List Ob}{a:Act}{o:Oper}{x:AV}{v:Value}(r:Rel N B w g h a T)(k:Good B.b w g h w' g' h')(j:AR (ctx w' g' h') x v)(c:wF N o=true):Rel N B w' g' h' (a.put o.dst v) (qG T o.dst x):=by
 have f:wM (ctx w' g' h') T a:=λi=>AR.le k.le _ _ (r.t i);cases e:o.dst with
 | none=>exact⟨k.ok,k.size,f,r.d,r.n⟩
 | some d=>
   simp only[wF,e,decide_eq_true_eq] at c;exact⟨k.ok,k.size,xPa f j (by rw[r.n];exact c),r.d,by simp[Act.put,r.n]⟩
def runA_sound{φ:Nat->Ob}(E:Upto φ h.length){o:Oper}{K:Env->List Ob->Prop}(z:wF N o=true)(k:vf P T h o K){Q:Exit->Act->World->Prop}{w:World}{g:Gh}{a:Act}(r:Rel N B w g (fill φ h) a T)
    {next:Act->World->Prop} (A:∀G h' w' a',K G h'->Aft N B φ w g h G h' a' w'->next a' w'):o.wp P a w next Q:=by
 unfold vf at k;unfold Oper.wp;split at k
 ·rename_i x h' s;obtain⟨C,q⟩:=wE E _ s;obtain⟨nx,v,w',g',y,u,m,H⟩:=KC r.ok r.hB r.t o C;rw[y];rcases u with rfl|⟨rfl,rfl⟩
  ·exact A _ _ _ _ k ⟨g',q,yl r m H z,m⟩
  ·exact A _ _ _ _ k ⟨g',q,yl r m H z,m⟩
 ·split at k
  ·rename_i c I;split at k
   ·rename_i f aZ d;obtain⟨k1,_,k2⟩:=k;unfold vS at d;split at d
    ·rename_i X n;split at d
     ·rename_i F W M hX;injection d with d;injection d with ht1 ht2;subst ht1 ht2;have s:=jt r.t X;rw[hX] at s;obtain⟨D,vs,y,u,m⟩:=s;have l:ARs (ctx w g (fill φ h)) (W++evl T c.args.toList++M) (D.toList++c.args.toList.map a.eval++vs.toList):=yj (yj u (ZE r.t _)) m;have i:=k2 φ E B.b w g _ r.ok r.hB l
      have j:∃fn,P.funcs[F]? =some fn/\fn.name≠ "runtime.NumGoroutine" /\fn.body.isSome=true:=by
       unfold Vu at k1;split at k1
       ·rename_i fn j;simp only[zi,bne_iff_ne,ne_eq] at k1;exact⟨fn,j,k1.1,k1.2⟩
       ·cases k1
      obtain⟨fn,f1,Z,R⟩:=j;have f5:(fn.name== "runtime.NumGoroutine")=false:=(by simpa using Z);have U:fn.body.isNone=false:=by cases Y:fn.body<;>simp[Y] at R⊢
      have p:(execOp a.eval o).run P w= .ok (.enter F (D.toList++c.args.toList.map a.eval++vs.toList).toArray) w:=by
       obtain⟨dst,op,type,pos,after,guard⟩:=o;simp only at I;subst I;simp only[execOp,resolve,n,y,Deferred.ofValue,Sem.run_bind,Sem.run_pure,Result.andThen_ok,invoke,callFunc,run_program,f1,U,f5,Bool.false_eq_true,if_false];simp
      rw[p];refine Calls.mono i λe w' ⟨v,rr,h',g',V,S,O,J,L⟩=>?_;subst V;exact A _ _ _ _ S ⟨g',O,yl r J L z,J⟩
     ·cases d
    ·cases d
   ·exact k.elim
  ·exact k.elim
def zya(n:Nat){o:Oper}{a:Act}{w:World}{K:Act->World->Prop}{Q:Exit->Act->World->Prop}(h:o.wp P a w K Q):o.wpIn Fence.wide n P a w K Q:=by
 unfold Oper.wp at h;unfold Oper.wpIn;refine⟨λ_ _=>trivial,?_⟩;show o.uponIn Fence.wide n P a K Q ((execOp a.eval o).run P w);generalize (execOp a.eval o).run P w=r at h⊢
 have b:∀row args w' (R:Value->World->Prop),Rows P row args w' R->RowsIn Fence.wide (n - 1) P row args w' R:=λrow args w' R h c g _=>by
  obtain⟨v,e,f,i⟩:=h c g;exact⟨v,e,f,stepsIn_wide.2 i⟩
 cases r with
 | ok x w'=>
   cases x<;>first|exact h|exact h.elim|exact⟨λd=>(by cases d),callsIn_wide.2 h⟩|exact⟨λd=>(by cases d),b _ _ _ _ h⟩
 | halt x w'=>
   cases x<;>first|exact h|exact h.elim
def runB_sound{φ:Nat->Ob}(n:Nat)(z:Upto φ h.length){o:Oper}{K:Env->List Ob->Prop}(A:wF N o=true)(k:Xw P T h o K){Q:Exit->Act->World->Prop}{w:World}{g:Gh}{a:Act}(r:Rel N B w g (fill φ h) a T)
    {next:Act->World->Prop} (m:∀C h' w' a',K C h'->Aft N B φ w g h C h' a' w'->next a' w'):o.wpIn Fence.wide n P a w next Q:=by
 unfold Xw at k;cases d:vT T o.op with
 | none=>rw[d] at k;exact zya n (runA_sound z A k r m)
 | some q=>
   obtain⟨l,ar⟩:=q;rw[d] at k;simp only at k;unfold vT at d;split at d
   ·rename_i c D;split at d
    ·rename_i X i;split at d
     ·rename_i x F v L;split at d
      ·rename_i f;injection d with d;injection d with hy1 hy2;subst hy1 hy2;rw[zi] at f;have p:=jt r.t X;rw[L] at p;have p:a.eval X= .func (.yield x) F v:=p;have u:F= #[]:=(by simpa using f.1);have s:v= #[]:=(by simpa using f.2);subst u s;obtain⟨fn,tmps,assign,body,y,I⟩:=k φ z B.b w g _ r.ok r.hB (ZE r.t c.args.toList)
       have j:(execOp a.eval o).run P w= .ok (.round x fn tmps assign body) w:=by
        obtain⟨dst,op,type,pos,after,guard⟩:=o;simp only at D;subst D;simp only[execOp,resolve,i,p,Deferred.ofValue,Sem.run_bind,Sem.run_pure,Result.andThen_ok,invoke];rw[<-Array.toList_map,Array.toArray_toList] at y;simpa using y
       unfold Oper.wpIn;refine⟨λ_ _=>trivial,?_⟩;show o.uponIn Fence.wide n P a next Q ((execOp a.eval o).run P w)
       rw[j,Oper.uponIn_round];refine⟨λm=>(by cases m),(I _).mono λe w' ⟨h',g',J,H,G,E⟩=>?_⟩;subst J;exact m _ _ _ _ H ⟨g',G,yl r E rfl A,E⟩
      ·cases d
     ·cases d
    ·cases d
   ·cases d
def wpA_sound{φ:Nat->Ob}{ops:Array Oper}{K:Env->List Ob->Prop}:∀(l:List Oper),(l.all (wF N))=true->∀ {T:Env} {h:List Ob},Upto φ h.length->wpA P ops K l T h->∀ {w:World} {g:Gh} {a:Act},Rel N B w g (fill φ h) a T->
    ∀ {Q:Exit->Act->World->Prop},(∀F h' w' a',K F h'->Aft N B φ w g h F h' a' w'->Q .normal a' w')->wpListIn Fence.wide 0 P ops Q l a w
 | [],_,T,h,_,k,w,g,a,r,Q,y=>y _ _ _ _ k (.refl r)
 | o::l,p,T,h,D,k,w,g,a,r,Q,y=>by
   rw[List.all_cons,zi] at p
   have i:Xw P T h o (wpA P ops K l)->o.wpIn Fence.wide 0 P a w (wpListIn Fence.wide 0 P ops Q l) Q:=λk=>
    runB_sound 0 D p.1 k r λF h' w' a' k' q=>by
     have I:=q.len;obtain⟨g',O,L,R⟩:=q;exact wpA_sound l p.2 (D.mono I) k' L λS M H a2 k2 C=>y _ _ _ _ k2 (C.trans O R)
   have f:wpA P ops K l (qG T o.dst (.v undef)) h->wpListIn Fence.wide 0 P ops Q l (a.put o.dst undef) w:=λk=>
    wpA_sound l p.2 D k (yl r (Good.refl r.ok r.hB) (x:= .v undef) rfl p.1) λS M H a2 k2 C=>y _ _ _ _ k2 C
   unfold wpA at k;unfold wpListIn;split at k
   ·rename_i m;rw[if_pos (by simp[Region.wanted,m])];exact(i k)
   ·rename_i j n m;split at k
    ·rename_i d s
     have z:yielded ops a.tmps j=match a.tmps[d]? with|some (.bool b)=>some b|_=>none:=by
      simp only[yielded,s,Option.bind_some];rfl
     have c:=r.t d;rw[qf] at c;split at k
     ·rename_i b G;rw[G] at c;have c:(a.tmps[d]?).getD undef= .bool b:=c
      have J:a.tmps[d]? =some (.bool b):=by
       cases e:a.tmps[d]? with
       | none=>rw[e] at c;cases c
       | some u=>rw[e] at c;exact congrArg some c
      rw[J] at z;by_cases A:b=n
      ·rw[if_pos (by simp[Region.wanted,m,z,A])];exact(i (k.1 A))
      ·rw[if_neg (by simp[Region.wanted,m,z,A])];exact⟨λ_ _=>trivial,f (k.2 A)⟩
     ·rename_i vs G;rw[G] at c;have c:(a.tmps[d]?).getD undef= .tuple vs:=c
      have E:yielded ops a.tmps j=none:=by
       rw[z];cases e:a.tmps[d]? with
       | none=>rfl
       | some u=>rw[e] at c;have:u= .tuple vs:=c;subst this;rfl
      rw[if_neg (by simp[Region.wanted,m,E])];exact⟨λ_ _=>trivial,f k⟩
     ·exact k.elim
    ·exact k.elim
def WD{id:Nat}{ops:Array Oper}{Q:xk}(d:(ops.toList.all (wF N))=true)(k:wpA P ops (Q .normal) ops.toList T h):AWp P N B (.region id ops false) Q T h:=λφ b w g a r=>
 (wpIn_wide (n:=0)).1 (wpIn_region (by
  rw[List.range_eq_range', <-xi,wpOpsIn_eq_wpListIn ops.toList 0 zh];exact wpA_sound ops.toList d b k r λc h' w' a' k' q=>⟨c,h',k',q⟩))
end
def ZJ(P:Program)(T:Env)(h:List Ob):ResultVar->Option AV
 | .tmp t=>some (T t)
 | .cell a t=>match T a with
   | .ptr id off=>yE h (zF P t) (.ptr id off)
   | _=>none
def wn(P:Program)(T:Env)(h:List Ob):List ResultVar->Option (List AV)
 | []=>some []
 | r::rs=>(ZJ P T h r).bind λx=>(wn P T h rs).map (x:: ·)
def vga:List AV->AV
 | [x]=>x
 | xs=> .tup xs
def Xx(P:Program)(T:Env)(h:List Ob)(rs:List ResultVar):Option AV:=
 (wn P T h rs).map vga
def w2a(P:Program)(fn:Func)(R:AV->List Ob->Prop):xk
 | .normal,T,h | .ret,T,h=>∃r,Xx P T h fn.results.toList=some r/\R r h
 | _,_,_=>False
section
variable {P:Program} {N:Nat} {B:Bs} {T:Env} {h:List Ob}
def qJa(tmps:Array Value):ResultVar->Sem Value
 | .tmp t=>pure (tmps.getD t undef)
 | .cell b t=>do loadVar t (<-asAddr (tmps.getD b undef))
def WE(fn:Func)(tmps:Array Value):results fn tmps=(do let vs<-fn.results.mapM (qJa tmps);pure (if h:vs.size=1 then vs[0] else .tuple vs)):=by
 unfold results
 first|rfl|(congr 1;first|done|(congr 1;funext r;cases r<;>rfl))
def resAll_sound{B:Nat}{w:World}{g:Gh}{a:Act}(k:HOk B w g h)(hB:B<=w.heap.size)(l:wM (ctx w g h) T a):∀(rs:List ResultVar) (xs:List AV),wn P T h rs=some xs->
    ∃vs,(rs.mapM (qJa a.tmps)).run P w= .ok vs w/\ARs (ctx w g h) xs vs
 | [],xs,e=>by injection e with e;subst e;exact⟨[],zh,rfl⟩
 | r::rs,xs,e=>by
   simp only[wn] at e;cases c:ZJ P T h r with
   | none=>rw[c] at e;cases e
   | some x=>
     rw[c] at e;simp only[Option.bind_some] at e;cases i:wn P T h rs with
     | none=>rw[i] at e;cases e
     | some ys=>
       rw[i] at e;injection e with e;subst e;obtain⟨vs,n,o⟩:=resAll_sound k hB l rs ys i;cases r with
       | tmp t=>
         injection c with c;subst c;exact⟨a.tmps.getD t undef::vs,by simp only[List.mapM_cons,Sem.run_bind,qJa,Sem.run_pure,Result.andThen_ok,n],⟨_,_,rfl,l t,o⟩⟩
       | cell b t=>
         simp only[ZJ] at c;split at c
         ·rename_i id off q;have j:=l b;rw[q] at j;obtain⟨v,w',g',z,A,z3⟩:=Vm (P:=P) k hB j c;have f:a.tmps.getD b undef= .pointer (some ⟨g.β id,off,none⟩):=j.2
          have s:∃v,(loadVar t ⟨g.β id,off,none⟩).run P w= .ok v w/\AR (ctx w g h) x v:=by
           simp only[yE] at c;split at c
           ·rename_i ty y p;split at c
            ·rename_i u;obtain⟨v,d,m⟩:=load_part (P:=P) u (Vf k p) c;rw[Addr.add_lit,Nat.zero_add] at d;exact⟨v,d,m⟩
            ·cases c
           ·cases c
          obtain⟨v,d,m⟩:=s;exact⟨v::vs,by simp only[List.mapM_cons,Sem.run_bind,qJa,f,asAddr,Sem.run_pure,Result.andThen_ok,d,n],⟨_,_,rfl,m,o⟩⟩
         ·cases c
def QP{φ:Nat->Ob}:∀(rs:List ResultVar) {xs:List AV},wn P T h rs=some xs->wn P T (fill φ h) rs=some xs
 | [],_,e=>e
 | r::rs,xs,e=>by
   simp only[wn] at e⊢;cases a:ZJ P T h r with
   | none=>rw[a] at e;cases e
   | some x=>
     rw[a] at e;cases c:wn P T h rs with
     | none=>rw[c] at e;cases e
     | some ys=>
       rw[c] at e
       have:ZJ P T (fill φ h) r=some x:=by
        cases r with
        | tmp t=>exact a
        | cell b t=>
          simp only[ZJ] at a⊢;split at a
          ·exact Jx _ a
          ·cases a
       rw[this,QP rs c];exact e
def acalls_of_awp{f:FuncId}{fn:Func}{c:Code}{aZ:List AV}{R:AV->List Ob->Prop}(T:P.funcs[f]? =some fn)(S:fn.body=some c)(Q:aZ.length<=fn.ntmps)(D:Vu P f=true)(hex:∃r h',R r h'/\ResK h h')
    (k:∀B:Bs,AWp P fn.ntmps B c (w2a P fn R) (nth aZ) h):ACalls P f aZ h R:=⟨D,hex,λφ N B w g vs I hB a=>by
 have m:=wz a;refine calls_of_wp T S ?_
 have n:Rel fn.ntmps ⟨B,[]⟩ w g (fill φ h) { tmps:=vs.toArray++Array.replicate (fn.ntmps - vs.toArray.size) undef,defers:=[] } (nth aZ):=by
  refine⟨I,hB,λi=>?_,rfl,zE⟩;by_cases hi:i<aZ.length
  ·obtain⟨u,o,l⟩:=wX a i hi
   have:(vs.toArray++Array.replicate (fn.ntmps - vs.toArray.size) undef).getD i undef=u:=by
    rw[qf,Array.getElem?_append_left zE];simp[o]
   simp only[this];exact l
  ·have:nth aZ i= .bad:=by
    clear m a k Q
    induction aZ generalizing i with
    | nil=>rfl
    | cons x aZ H=>
      cases i with
      | zero=>simp at hi
      | succ i=>exact H i (by simpa using hi)
   rw[this];trivial
 refine wp_mono (k ⟨B,[]⟩ φ N w g _ n) λe a' w' ⟨E,h',o,g',K,l,F⟩=>?_
 have fin:(∃r,Xx P E h' fn.results.toList=some r/\R r h')->a'.defers=[]/\∃v,(results fn a'.tmps).run P w'= .ok v w'/\∃v' r h'' g'',Ending.returned v= .returned v'/\R r h''/\ResK h h''/\Good B w g (fill φ h) w' g'' (fill φ h'')/\AR (ctx w' g'' (fill φ h'')) r v':=by
  rintro ⟨r,b,L⟩;refine⟨l.d,?_⟩;unfold Xx at b;cases A:wn P E h' fn.results.toList with
  | none=>rw[A] at b;cases b
  | some xs=>
    rw[A] at b;injection b with b;obtain⟨j,M,y⟩:=resAll_sound l.ok l.hB l.t _ xs (QP _ A)
    have O:(fn.results.mapM (qJa a'.tmps)).run P w'= .ok j.toArray w':=by
     rw[Array.mapM_eq_mapM_toList];simp[M]
    have p:(results fn a'.tmps).run P w'= .ok (if h:j.toArray.size=1 then j.toArray[0] else .tuple j.toArray) w':=by
     rw[WE,Sem.run_bind,O];rfl
    refine⟨_,p,_,r,h',g',rfl,L,K,F,?_⟩;have G:=wz y;unfold vga at b;split at b
    ·rename_i x;subst b;obtain⟨u,q,J,U,C⟩:=y;have C:q=[]:=C;subst C J;simpa using U
    ·rename_i z;subst b;rw[dif_neg]
     ·exact⟨j.toArray,rfl,by simpa using y⟩
     ·intro s;have s:j.length=1:=(by simpa using s);rw[<-G] at s
      match xs,s with
      | [x],_=>exact z x rfl
 cases e with
 | normal=>exact fin o
 | ret=>exact fin o
 | _=>exact o.elim⟩
end
end
