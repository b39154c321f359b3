import Derived.Test.YtigdlmpjijhpaaaGreatBA
import Derived.Test.YtigdlmpjijhpaaaGreatB09
import Derived.LoopN
set_option linter.all false
namespace Go.Proofs.YtigdlmpjijhpaaaGreat.Ax
open Go Go.RowKit
def KXa(x:Option Oper)[k:Held (Oper->Prop)]:Prop:=match x with
 | some o=>k.it o
 | none=>False
def KYa(b s:Nat):Nat:=b+s
def Yv(x:Option (Ob × (Nat->AV)))(h:List Ob)(id:Nat)[k:Held (AV->List Ob->Prop)]:Prop:=match x with
 | some (ob,mk)=>h[id]? =some .res/\k.it (mk id) (h.set id ob)
 | none=>False
def vK:Op->Bool
 | .alloc .. | .box .. | .buildSlice .. | .makeSlice .. | .makeMap .. =>true
 | _=>false
theorem xLa(op:Op):vK op=true↔cls op=3:=by
 cases op
 case call c=>
  obtain⟨callee,args,a⟩:=c
  cases callee with
  | builtin b=>cases b<;>simp[vK,cls]
  | value x=>simp[vK,cls]
  | invoke r m=>simp[vK,cls]
 case binOp op t y z u=>simp only[vK,cls];split<;>simp
 all_goals simp[vK,cls]
def Vt(P:Program)(ops:Array Oper)(b:Nat)(q:Ent)(o:Oper)(K:Env->List Ob->Prop)(T:Env)(h:List Ob):Prop:=
 if vK o.op then @Yv (jA P T o.op) h (KYa b q.2.1) ⟨λx h'=>K (qW T o.dst x) h'⟩ else Vr P T h o (λT h=>ju P ops T h q.2.2/\K T h)
def XC(P:Program)(ops:Array Oper)(b:Nat)(q:Ent)(K:Env->List Ob->Prop)(T:Env)(h:List Ob)(o:Oper):Prop:=match o.guard with
 | none=>Vt P ops b q o K T h
 | some (j,a)=> @wI (yu ops j T) a ⟨Vt P ops b q o K T h⟩ ⟨ju P ops (qW T o.dst (.v undef)) h q.2.2/\K (qW T o.dst (.v undef)) h⟩
def wpQ(P:Program)(ops:Array Oper)(b:Nat)(K:Env->List Ob->Prop):List Ent->Env->List Ob->Prop
 | [],T,h=>K T h
 | q::r,T,h=> @KXa ops[q.1]? ⟨XC P ops b q (wpQ P ops b K r) T h⟩
section
variable {P:Program} {N:Nat} {B:Bs} {ops:Array Oper} {T:Env} {h:List Ob} {Q Q':jF}
theorem qEa{o:Oper}{K K':Env->List Ob->Prop}(k:WG P T h o K)(b:∀T h,K T h->K' T h):WG P T h o K':=by
 unfold WG at k⊢
 split
 ·rename_i l ar a
  rw[a] at k
  exact Jv k λh' q=>b _ _ q
 ·rename_i a
  rw[a] at k
  exact Xb k b
theorem Wf{K:Env->List Ob->Prop}:∀(l:List Oper) {T:Env} {h:List Ob},wpR P ops K l T h->wpA P ops K l T h
 | [],_,_,k=>k
 | o::r,T,h,k=>by
   have a:∀T h,wpR P ops K r T h->wpA P ops K r T h:=λT h=>Wf r
   unfold wpR at k
   unfold wpA
   cases f:o.guard with
   | none=>simp only[f] at k ⊢;exact qEa (Jna k) a
   | some q=>
     obtain⟨j,g⟩:=q
     simp only[f,yu] at k⊢
     cases i:(ops[j]?).bind (·.dst) with
     | none=>simp only[i,wI] at k
     | some d=>
       simp only[i] at k⊢
       unfold wI at k
       split at k
       ·rename_i b c
        rw[c]
        refine⟨λe=>qEa (Jna (k.1 (by simp[e]))) a,λe=>a _ _ (k.2 (by simp[e]))⟩
       ·rename_i vs c
        rw[c]
        exact a _ _ k
       ·exact k.elim
theorem qn:∀(c:Code),okC N c=true->∀ {Q:jF} {T:Env} {h:List Ob},wpC P N B c Q T h->AWp P N B c Q T h:=by
 intro c
 induction c with
 | skip=>intro _ Q T h k;exact Js k
 | label l=>intro _ Q T h k;exact Zja k
 | seq a b i j=>
   intro g Q T h k
   simp only[okC,zl] at g
   refine ZX ((i g.1 k).mono λe T h q=>?_)
   cases e<;>first
    | exact j g.2 q
    | exact q
 | region id ops d=>
   intro g Q T h k
   cases d with
   | false=>exact vya g (Wf _ k)
   | true=>exact k
 | cond x a b i j=>
   intro g Q T h k
   simp only[okC,zl] at g
   unfold wpC Ym at k
   split at k
   ·rename_i t n
    exact wH n (λe=>i g.1 (k.1 e)) (λe=>j g.2 (k.2 e))
   ·exact k.elim
 | block id c m=>intro g Q T h k;exact xE (m g k)
 | loop c m=>intro _ Q T h k;exact k
 | exit id=>intro _ Q T h k;exact Q0a k
 | ret=>intro _ Q T h k;exact KEa k
 | rangeFunc f p a b _ _=>intro _ Q T h k;exact k
 | scope b _=>intro _ Q T h k;exact k
 | goto l=>intro _ Q T h k;exact k
 | refuse w=>intro _ Q T h k;exact k
theorem yka{b:Nat}{K:Env->List Ob->Prop}:∀(l:List Ent) {T:Env} {h:List Ob},wpQ P ops b K l T h->wpE P ops b K l T h
 | [],_,_,k=>k
 | q::r,T,h,k=>by
   have f:∀T h,wpQ P ops b K r T h->wpE P ops b K r T h:=λT h=>yka r
   unfold wpQ KXa at k
   unfold wpE
   split at k
   ·rename_i o u
    rw[u]
    simp only
    have k:XC P ops b q (wpQ P ops b K r) T h o:=k
    by_cases n:cls o.op=3
    ·have s:=(xLa o.op).2 n
     have a:Vt P ops b q o (wpQ P ops b K r) T h->Jw P (b+q.2.1) o (wpE P ops b K r) T h:=λk=>by
      unfold Vt at k
      rw[if_pos s] at k
      unfold Yv at k
      unfold Jw
      split at k
      ·rename_i ob mk t;rw[t];exact⟨k.1,f _ _ k.2⟩
      ·exact k.elim
     rw[vS n]
     unfold Yq kN
     unfold XC at k
     cases g:o.guard with
     | none=>simp only[g] at k ⊢;exact a k
     | some p=>
       obtain⟨j,i⟩:=p
       simp only[g,yu] at k⊢
       cases m:(ops[j]?).bind (·.dst) with
       | none=>simp only[m,wI] at k
       | some d=>
         simp only[m] at k⊢
         unfold wI at k
         split at k
         ·rename_i b c
          rw[c]
          exact⟨λe=>a (k.1 (by simp[e])),λe=>f _ _ (k.2 (by simp[e])).2⟩
         ·rename_i vs c
          rw[c]
          exact f _ _ k.2
         ·exact k.elim
    ·have s:¬ vK o.op=true:=λh=>n ((xLa o.op).1 h)
     have a:Vt P ops b q o (wpQ P ops b K r) T h->wV P T h o (λT h=>ju P ops T h q.2.2/\wpE P ops b K r T h):=λk=>by
      unfold Vt at k
      rw[if_neg s] at k
      exact Xb (jxa k) λT h ⟨k1,k2⟩=>⟨k1,f _ _ k2⟩
     rw[wJ n]
     unfold vD kN Joa
     unfold XC at k
     cases g:o.guard with
     | none=>simp only[g] at k ⊢;exact a k
     | some p=>
       obtain⟨j,i⟩:=p
       simp only[g,yu] at k⊢
       cases m:(ops[j]?).bind (·.dst) with
       | none=>simp only[m,wI] at k
       | some d=>
         simp only[m] at k⊢
         unfold wI at k
         split at k
         ·rename_i b c
          rw[c]
          exact⟨λe=>a (k.1 (by simp[e])),λe=>let q:=k.2 (by simp[e]);⟨q.1,f _ _ q.2⟩⟩
         ·rename_i vs c
          rw[c]
          exact⟨k.1,f _ _ k.2⟩
         ·exact k.elim
   ·exact k.elim
theorem zV{id:Nat}(d:P.follows .mixedOrders=true)(L:List Ob)(k:Nat)(a:List Ent)(c:L=List.replicate k .res)(e:ops.toList.all (xc N)=true)(b:Jy ops k a=true)(q:wpQ P ops h.length (Q .normal) a T (h++L)): @yD P N B ⟨(.region id ops true,Q)⟩ T h:=
 Jwa d k a e b (yka _ (c▸q))
section
variable {b:Nat} {K:Env->List Ob->Prop} {q:Ent} {o:Oper} {dst:Option Tmp} {op:Op} {type:TypeId} {pos:String} {after:Array Edge}
theorem KZa:wpQ P ops b K [] T h=K T h:=id rfl
theorem Jxa{r:List Ent}:wpQ P ops b K (q::r) T h= @KXa ops[q.1]? ⟨XC P ops b q (wpQ P ops b K r) T h⟩:=id rfl
theorem Zxa{k:Oper->Prop}: @KXa (some o) ⟨k⟩=k o:=id rfl
theorem vOa:XC P ops b q K T h ⟨dst,op,type,pos,after,none⟩=Vt P ops b q ⟨dst,op,type,pos,after,none⟩ K T h:=id rfl
theorem vPa{j:Nat}{a:Bool}:XC P ops b q K T h ⟨dst,op,type,pos,after,some (j,a)⟩= @wI (yu ops j T) a ⟨Vt P ops b q ⟨dst,op,type,pos,after,some (j,a)⟩ K T h⟩ ⟨ju P ops (qW T dst (.v undef)) h q.2.2/\K (qW T dst (.v undef)) h⟩:=id rfl
theorem K0a{g:Option (Nat × Bool)}(a:vK op=true):Vt P ops b q ⟨dst,op,type,pos,after,g⟩ K T h= @Yv (jA P T op) h (KYa b q.2.1) ⟨λx h'=>K (qW T dst x) h'⟩:=by
 unfold Vt;rw[if_pos a]
theorem Yma{g:Option (Nat × Bool)}(a:vK op=false):Vt P ops b q ⟨dst,op,type,pos,after,g⟩ K T h=Vr P T h ⟨dst,op,type,pos,after,g⟩ (λT h=>ju P ops T h q.2.2/\K T h):=by
 unfold Vt;rw[if_neg];rw[a];simp
theorem xMa{ob:Ob}{mk:Nat->AV}{i:Nat}{k:AV->List Ob->Prop}: @Yv (some (ob,mk)) h i ⟨k⟩=(h[i]? =some .res/\k (mk i) (h.set i ob)):=id rfl
theorem Jya{a c s:Nat}:KYa (a+c) s=a+(c+s):=Nat.add_assoc a c s
theorem Jza{α:Type}{l:List α}{s:Nat}:KYa l.length s=l.length+s:=id rfl
theorem jDa:ju P ops T h []=True:=id rfl
theorem z2a{l:Nat}{r:List Nat}:ju P ops T h (l::r)=(ww P ops T h l/\ju P ops T h r):=id rfl
theorem Zya{l:Nat}:ww P ops T h l=(match ops[l]? with
 | some o=>match o.dst with
   | some d=>Z6 P ops T h o=some (T d)
   | none=>False
 | none=>False):=id rfl
theorem Zza:Z6 P ops T h ⟨dst,op,type,pos,after,none⟩=(qc P T h op).map (·.1):=id rfl
def JAa(t:AV)(a:Bool)(x:Option AV):Option AV:=match t with
 | .v (.bool b)=>if b=a then x else some (.v undef)
 | .v (.tuple _)=>some (.v undef)
 | _=>none
theorem ZAa{j:Nat}{a:Bool}:Z6 P ops T h ⟨dst,op,type,pos,after,some (j,a)⟩=JAa (yu ops j T) a ((qc P T h op).map (·.1)):=by
 unfold Z6 yu
 simp only
 cases b:(ops[j]?).bind (·.dst) with
 | none=>rfl
 | some d=>
   simp only
   generalize T d=t
   unfold JAa
   rfl
theorem Yna{b a:Bool}{x:Option AV}:JAa (.v (.bool b)) a x=if b=a then x else some (.v undef):=id rfl
theorem Yoa{vs:Array Value}{a:Bool}{x:Option AV}:JAa (.v (.tuple vs)) a x=some (.v undef):=id rfl
theorem vQa{t:TypeId}:vK (.alloc t)=true:=id rfl
theorem JBa{t:TypeId}{x:Operand}:vK (.box t x)=true:=id rfl
theorem K1a{t:TypeId}{n:Nat}{a:Array (Nat × Operand)}:vK (.buildSlice t n a)=true:=id rfl
theorem K2a{t:TypeId}{x y:Operand}:vK (.makeSlice t x y)=true:=id rfl
theorem K3a{t:TypeId}{r:Option Operand}:vK (.makeMap t r)=true:=id rfl
theorem ZBa{x:Operand}:vK (.move x)=false:=id rfl
theorem xNa{x:Operand}:vK (.assign x)=false:=id rfl
theorem ZCa{x y z:Operand}:vK (.pick x y z)=false:=id rfl
theorem vRa{t:TypeId}{a:Array (Nat × Operand)}:vK (.build t a)=false:=id rfl
theorem ZDa{t:TypeId}{x:Operand}:vK (.load t x)=false:=id rfl
theorem vSa{t:TypeId}{x y:Operand}:vK (.store t x y)=false:=id rfl
theorem z3a{x:Operand}:vK (.nilCheck x)=false:=id rfl
theorem vTa{b:BinOp}{t u:TypeId}{x y:Operand}:vK (.binOp b t x y u)=false:=id rfl
theorem ZEa{b:UnOp}{t:TypeId}{x:Operand}:vK (.unOp b t x)=false:=id rfl
theorem jEa{t u:TypeId}{x:Operand}:vK (.convert t u x)=false:=id rfl
theorem z4a{f:Fn}{aZ a:Array Operand}:vK (.makeFunc f aZ a)=false:=id rfl
theorem Yw{t:TypeId}{x:Operand}{n:Nat}:vK (.fieldAddr t x n)=false:=id rfl
theorem vUa{t:TypeId}{x:Operand}{n:Nat}:vK (.field t x n)=false:=id rfl
theorem Yx{t:TypeId}{x y:Operand}:vK (.indexAddr t x y)=false:=id rfl
theorem vVa{t:TypeId}{x y:Operand}:vK (.index t x y)=false:=id rfl
theorem vWa{t:TypeId}{x:Operand}{l m k:Option Operand}:vK (.slice t x l m k)=false:=id rfl
theorem xOa{t:TypeId}{x y z:Operand}:vK (.insert t x y z)=false:=id rfl
theorem xPa{t:TypeId}{x y:Operand}{o:Bool}:vK (.lookup t x y o)=false:=id rfl
theorem jFa{x:Operand}{n:Nat}:vK (.extract x n)=false:=id rfl
theorem ZFa{c:Call}:vK (.call c)=false:=id rfl
theorem Ypa{t:TypeId}{x y:Operand}:qN (.makeSlice t x y)=none:=id rfl
theorem Yqa{t:TypeId}{r:Option Operand}:qN (.makeMap t r)=none:=id rfl
theorem ZGa{t:TypeId}{x:Operand}{n:Nat}:qN (.field t x n)=none:=id rfl
theorem ZHa{t:TypeId}{x y:Operand}:qN (.index t x y)=none:=id rfl
theorem ZIa{t:TypeId}{x:Operand}{l m k:Option Operand}:qN (.slice t x l m k)=none:=id rfl
theorem vXa{t:TypeId}{x y z:Operand}:qN (.insert t x y z)=none:=id rfl
theorem vYa{t:TypeId}{x y:Operand}{o:Bool}:qN (.lookup t x y o)=none:=id rfl
end
theorem zP{c:Code}(a:okC N c=true)(I:Nat->Env->List Ob->Prop)(n:Nat)(h0:I n T h)
  (round:∀n T h,I n T h->wpC P N B c (yC (λb h'=>∃n',n'<n/\I n' b h') Q) T h): @yD P N B ⟨(.loop c,Q)⟩ T h:=
 Zt I n h0 λn T h k=>qn c a (round n T h k)
def Yra(P:Program)(N:Nat)(B:Bs)(n:Nat)[x:Held (Code × jF)](T:Env)(h:List Ob):Prop:=
 ∀(φ:Nat->Ob),Upto φ h.length->∀(w:World) (g:Gh) (a:Act),Rel N B w g (fill φ h) a T->Code.rounds P x.it.1 (λe c w'=>∃b h',x.it.2 e b h'/\Aft N B φ w g h b h' c w') n a w
theorem Wg{c:Code}{Q Q':Exit->Act->World->Prop}(b:∀e a w,Q e a w->Q' e a w):∀(n:Nat) {a:Act} {w:World},Code.rounds P c Q n a w->Code.rounds P c Q' n a w
 | 0,_,_,k=>k
 | n+1,a,w,k=>by
   rw[rounds_succ] at k⊢
   refine wp_mono k λe d w' q=>?_
   cases e<;>first
    | exact Wg b n q
    | exact b _ _ _ q
theorem yi{c:Code}(n:Nat)(k: @Yra P N B n ⟨(c,Q)⟩ T h): @yD P N B ⟨(.loop c,Q)⟩ T h:=λφ b w g a r=>wp_loop_rounds n (k φ b w g a r)
theorem xo{c:Code}{n:Nat}(f:okC N c=true)(k:wpC P N B c (yC (λd h'=> @Yra P N B n ⟨(c,Q)⟩ d h') Q) T h): @Yra P N B (n+1) ⟨(c,Q)⟩ T h:=λφ i w g a r=>by
 rw[rounds_succ]
 refine wp_mono (qn c f k φ i w g a r) λe p w' ⟨d,h',j,b⟩=>?_
 cases e with
 | normal=>
   have v:=b.len
   obtain⟨g',u,o,t⟩:=b
   exact Wg (λ_ _ _ ⟨m,l,s,q⟩=>⟨m,l,s,q.trans u t⟩) n (j φ (i.mono v) w' g' p o)
 | _=>exact⟨d,h',j,b⟩
theorem zj{f:FuncId}(fn:Func){c:Code}{aZ:List AV}{R:AV->List Ob->Prop}(rs:List ResultVar)(N:Nat)(d:P.funcs[f]? =some fn)(g:fn.body=some c)(e:fn.ntmps=N)(a:fn.results.toList=rs)(j:aZ.length.ble N=true)(b:XQ P f=true)(i:okC N c=true)(hex:∃r h',R r h'/\ResK h h')
  (k:∀B,wpC P N B c (xAa P rs h R) (nth aZ) h):ACalls P f aZ h R:=xF d g e a (qC j) b hex λB=>qn c i (k B)
end
theorem WZa{x:Value}:AV.one (.v x)=x.oneCell':=id rfl
theorem Ysa{e:Nat}{xs:List (List AV)}:AV.one (.sl e xs)=true:=id rfl
theorem Yta{i s:Nat}:AV.one (.tl i s)=true:=id rfl
theorem K4a{i s:Nat}:AV.one (.ptr i s)=true:=id rfl
theorem Yua{a:AV}{e i k:Nat}:AV.one (.ep a e i k)=true:=id rfl
theorem Yva:AV.one .em=true:=id rfl
theorem Ywa{a:AV}{e i n:Nat}:AV.one (.vw a e i n)=true:=id rfl
theorem JCa:AV.cells .em=some [.em]:=id rfl
theorem JDa{a:AV}{e i n:Nat}:AV.cells (.vw a e i n)=some [.vw a e i n]:=id rfl
theorem Yxa{i:Nat}:AV.one (.mp i)=true:=id rfl
theorem JEa{i:Nat}:AV.cells (.mp i)=some [.mp i]:=id rfl
theorem Yya{f:Fn}{a b:List AV}:AV.one (.fn f a b)=true:=id rfl
theorem JFa{cs:List AV}:AV.cells (.ag cs)=if cs.all AV.one then some cs else none:=id rfl
theorem yla{x:Value}:AV.cells (.v x)=if x.oneCell' then some [.v x] else none:=id rfl
theorem JGa{e:Nat}{xs:List (List AV)}:AV.cells (.sl e xs)=some [.sl e xs]:=id rfl
theorem JHa{i s:Nat}:AV.cells (.tl i s)=some [.tl i s]:=id rfl
theorem ZJa{i s:Nat}:AV.cells (.ptr i s)=some [.ptr i s]:=id rfl
theorem JIa{a:AV}{e i k:Nat}:AV.cells (.ep a e i k)=some [.ep a e i k]:=id rfl
theorem JJa{f:Fn}{a b:List AV}:AV.cells (.fn f a b)=some [.fn f a b]:=id rfl
def qFa(o:Option Ob)(st:Nat):Option (List (List AV)):=match o with
 | some (.row _ _ xs s)=>if s=st then some xs else none
 | _=>none
def eTl(o:Option Ob):Option Nat:=match o with
 | some (.row _ e _ _)=>some e
 | _=>none
section
variable {h h':List Ob}
theorem ZKa{e:Nat}{xs:List (List AV)}:z6 h (.sl e xs)=some xs:=id rfl
theorem ZLa:z6 h .em=some []:=id rfl
theorem kP{a:AV}{e i n:Nat}:z6 h (.vw a e i n)=(z6 h a).bind λxs=>if i+n<=xs.length/\(n=0∨eOf h a=some e) then some ((xs.drop i).take n) else none:=id rfl
theorem Z7{a:AV}{e i n:Nat}:eOf h (.vw a e i n)=(eOf h a).bind λb=>if b=e then some e else none:=id rfl
theorem vZa{k:Nat}:z6 h (.v (.slice none 0 k))=some []:=id rfl
theorem qU{a st:Nat}:z6 h (.tl a st)=qFa h[a]? st:=id rfl
theorem kQ{ty e s st:Nat}{xs:List (List AV)}:qFa (some (.row ty e xs s)) st=if s=st then some xs else none:=id rfl
theorem Yza{e:Nat}{xs:List (List AV)}:eOf h (.sl e xs)=some e:=id rfl
theorem jI{a st:Nat}:eOf h (.tl a st)=eTl h[a]? :=id rfl
theorem vT{ty e s:Nat}{xs:List (List AV)}:eTl (some (.row ty e xs s))=some e:=id rfl
theorem xQa{x:Value}:z6 h (.v x)=z6 h' (.v x):=by
 unfold z6
 cases x<;>first
  | rfl
  | (rename_i a n k;cases a<;>cases n<;>rfl)
structure SlOf (h:List Ob) (a:AV) (e:Nat) (xs:List (List AV)):Prop where
 rows:z6 h a=some xs
 ee:xs≠[]->eOf h a=some e
theorem jGa{L:List Ob}:∀(a:AV) {e:Nat},eOf h a=some e->eOf (h++L) a=some e
 | .sl _ _,_,b=>b
 | .tl id st,e,b=>by
   simp only[eOf] at b⊢
   split at b
   ·rename_i ty f ys s d
    rw[zf d]
    exact b
   ·cases b
 | .vw a j i n,e,b=>by
   simp only[eOf] at b⊢
   cases c:eOf h a with
   | none=>rw[c] at b;cases b
   | some g=>rw[c] at b;rw[jGa a c];exact b
 | .v _,_,b | .em,_,b | .ptr _ _,_,b | .ep _ _ _ _,_,b | .mp _,_,b | .ag _,_,b | .tup _,_,b | .fn _ _ _,_,b | .bad,_,b=>by cases b
theorem Yy{L:List Ob}:∀(a:AV) {xs:List (List AV)},z6 h a=some xs->z6 (h++L) a=some xs
 | .sl _ _,_,b=>b
 | .em,_,b=>b
 | .tl id st,xs,b=>by
   simp only[z6] at b⊢
   split at b
   ·rename_i ty g ys s f
    rw[zf f]
    exact b
   ·cases b
 | .vw a e i n,xs,b=>by
   simp only[z6] at b⊢
   cases c:z6 h a with
   | none=>rw[c] at b;cases b
   | some ys=>
     rw[c] at b
     rw[Yy a c]
     simp only[Option.bind_some] at b⊢
     split at b
     ·rename_i d
      rw[if_pos ⟨d.1,d.2.imp id (jGa a)⟩]
      exact b
     ·cases b
 | .v x,xs,b=>by rw[<-xQa (h:=h)];exact b
 | .ptr _ _,_,b | .ep _ _ _ _,_,b | .mp _,_,b | .ag _,_,b | .tup _,_,b | .fn _ _ _,_,b | .bad,_,b=>by cases b
theorem SlOf.app{h:List Ob}{a:AV}{e:Nat}{xs:List (List AV)}(s:SlOf h a e xs)(L:List Ob):SlOf (h++L) a e xs:=⟨Yy a s.rows,λk=>jGa a (s.ee k)⟩
theorem v0a:∀ {a:AV} {xs:List (List AV)},z6 h a=some xs->AV.one a=true
 | .sl _ _,_,_ | .em,_,_ | .tl _ _,_,_ | .vw _ _ _ _,_,_=>rfl
 | .v x,xs,b=>by
   unfold z6 at b
   split at b<;>rename_i heq<;>first
    | (cases heq;done)
    | (injection heq with heq;subst heq;rfl)
    | cases b
 | .ptr _ _,_,b | .ep _ _ _ _,_,b | .mp _,_,b | .ag _,_,b | .tup _,_,b | .fn _ _ _,_,b | .bad,_,b=>by cases b
theorem SlOf.one{h:List Ob}{a:AV}{e:Nat}{xs:List (List AV)}(s:SlOf h a e xs):AV.one a=true:=v0a s.rows
theorem SlOf.cells{h:List Ob}{a:AV}{e:Nat}{xs:List (List AV)}(s:SlOf h a e xs):AV.cells a=some [a]:=by
 have c:=s.one
 obtain⟨b,_⟩:=s
 cases a with
 | v x=>rw[yla,if_pos (by simpa [WZa] using c)]
 | ag cs=>cases b
 | tup cs=>cases b
 | bad=>cases b
 | _=>rfl
theorem SlOf.at{h:List Ob}{a:AV}{e:Nat}{xs:List (List AV)}(s:SlOf h a e xs){i:Nat}(hi:i<xs.length):eOf h a=some e:=s.ee λb=>by rw[b] at hi;simp at hi
end
theorem wl0:IntKind.wrap .i64 0=0:=by decide
theorem wl1:IntKind.wrap .i64 1=1:=by decide
theorem wl2:IntKind.wrap .i64 2=2:=by decide
theorem wl3:IntKind.wrap .i64 3=3:=by decide
theorem wl4:IntKind.wrap .i64 4=4:=by decide
theorem wl5:IntKind.wrap .i64 5=5:=by decide
theorem wl6:IntKind.wrap .i64 6=6:=by decide
theorem wl7:IntKind.wrap .i64 7=7:=by decide
theorem wl8:IntKind.wrap .i64 8=8:=by decide
theorem wl9:IntKind.wrap .i64 9=9:=by decide
theorem j3b:IntKind.wrap .i64 10=10:=by decide
theorem j4b:IntKind.wrap .i64 11=11:=by decide
theorem j5b:IntKind.wrap .i64 12=12:=by decide
theorem j6b:IntKind.wrap .i64 13=13:=by decide
theorem j7b:IntKind.wrap .i64 14=14:=by decide
theorem j8b:IntKind.wrap .i64 15=15:=by decide
theorem j9b:IntKind.wrap .i64 16=16:=by decide
theorem xab:IntKind.wrap .i64 17=17:=by decide
theorem xbb:IntKind.wrap .i64 18=18:=by decide
theorem xcb:IntKind.wrap .i64 19=19:=by decide
theorem xdb:IntKind.wrap .i64 20=20:=by decide
theorem wlm:IntKind.wrap .i64 (-1)= -1:=by decide
attribute [go_sem] wl0 wl1 wl2 wl3 wl4 wl5 wl6 wl7 wl8 wl9 j3b j4b j5b j6b j7b j8b j9b xab xbb xcb xdb wlm
theorem JKa{x:Operand}:qN (.move x)=none:=id rfl
theorem v1a{x:Operand}:qN (.assign x)=none:=id rfl
theorem JLa{x:Operand}{y:Operand}{z:Operand}:qN (.pick x y z)=none:=id rfl
theorem ZMa{t:TypeId}:qN (.alloc t)=none:=id rfl
theorem K5a{t:TypeId}{x:Operand}:qN (.box t x)=none:=id rfl
theorem ZNa{t:TypeId}{a:Array (Nat × Operand)}:qN (.build t a)=none:=id rfl
theorem Yz{t:TypeId}{n:Nat}{a:Array (Nat × Operand)}:qN (.buildSlice t n a)=none:=id rfl
theorem JMa{t:TypeId}{x:Operand}:qN (.load t x)=none:=id rfl
theorem ZOa{t:TypeId}{x:Operand}{y:Operand}:qN (.store t x y)=none:=id rfl
theorem jHa{x:Operand}:qN (.nilCheck x)=none:=id rfl
theorem ZPa{b:BinOp}{t:TypeId}{x:Operand}{y:Operand}{u:TypeId}:qN (.binOp b t x y u)=none:=id rfl
theorem JNa{q:UnOp}{t:TypeId}{x:Operand}:qN (.unOp q t x)=none:=id rfl
theorem xRa{t:TypeId}{u:TypeId}{x:Operand}:qN (.convert t u x)=none:=id rfl
theorem jIa{f:Fn}{aZ:Array Operand}{a:Array Operand}:qN (.makeFunc f aZ a)=none:=id rfl
theorem z5a{t:TypeId}{x:Operand}{n:Nat}:qN (.fieldAddr t x n)=none:=id rfl
theorem z6a{t:TypeId}{x:Operand}{y:Operand}:qN (.indexAddr t x y)=none:=id rfl
theorem xSa{x:Operand}{n:Nat}:qN (.extract x n)=none:=id rfl
theorem JOa{b:Builtin}{aZ:Array Operand}{a:Array TypeId}:qN (.call ⟨.builtin b,aZ,a⟩)=none:=id rfl
theorem va{b:Bool}(e:(b==false)=false):b=true:=by cases b<;>simp_all
theorem vb{b:Bool}(e:(b==false)=true):b=false:=by cases b<;>simp_all
theorem xI{b:Bool}(e:(b==true)=false):b=false:=by cases b<;>simp_all
theorem xJ{b:Bool}(e:(b==true)=true):b=true:=by cases b<;>simp_all
attribute [go_sem] JKa v1a JLa ZMa K5a ZNa Yz JMa ZOa jHa ZPa JNa xRa jIa z5a z6a xSa JOa
attribute [go_sem] KZa Jxa Zxa vOa vPa K0a Yma xMa Jya Jza jDa z2a Zya Zza ZAa Yna Yoa vQa JBa K1a K2a K3a ZBa xNa ZCa vRa ZDa vSa z3a vTa ZEa jEa z4a Yw vUa Yx vVa vWa xOa xPa jFa ZFa Ypa Yqa ZGa ZHa ZIa vXa vYa
attribute [go_sem] xBa KOa KPa Zna Jba vBa Jca Jda Jea KNa Zma KQa Jfa Jga Yo Zoa Kx vCa Jha Zpa Jia KRa Jja Jka jwa KSa KTa Jla Jma Yp qub Yka Yla Vq Yl
 yu ev evl evs ofV nth cut lay yA XL Zq Jb xia WZa Yva Ywa Yxa JCa JDa JEa ZLa kP Z7 Ysa Yta K4a Yua Yya JFa yla JGa JHa ZJa JIa JJa part Jc Zr ZKa vZa qU kQ Yza jI vT vra QA QUa yaa vpa vqa xma J7 vu Yb XM Yfa jqa kX vC kI yba jA Jh xna Jd kY vv kL xv j5 ZU xka xla kH w9
 qc Qc Z5 yR XT KFa KMa Q7a Q8a Q9a Jaa Value.oneCell'
attribute [go_sem] List.head?_cons eq_self zz Option.getD_some Option.isSome_some if_true if_false Option.map_some Option.map_none Option.bind_some Option.bind_none List.map_cons List.map_nil List.length_cons List.length_nil ze List.cons_append List.nil_append zF
 List.set_cons_zero List.set_cons_succ List.getElem?_cons_zero List.getElem?_cons_succ List.getElem?_nil List.all_cons List.all_nil Bool.and_true Bool.and_self Bool.true_and Bool.false_eq_true and_self and_true true_and ne_eq not_false_eq_true
 List.take_succ_cons List.take_zero List.drop_succ_cons List.drop_zero beq_self_eq_true decide_true decide_false Nat.zero_add Nat.add_zero Bool.not_true Bool.not_false List.getElem?_toArray Bool.true_beq Bool.false_beq Bool.false_and Bool.and_false Bool.true_or Bool.or_true Bool.false_or Bool.or_false
attribute [go_sem] Nat.reduceAdd Nat.reduceMul Nat.reduceSub Nat.reduceLT Nat.reduceLeDiff Nat.reduceEqDiff reduceIte reduceCtorEq Int.reduceEq Int.reduceLT Int.reduceLE Int.reduceBEq Int.reduceToNat Int.reduceAdd Int.cast_ofNat_Int
