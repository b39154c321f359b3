import Derived.Test.YtigdlmpjijhpaaaGreatKA
import Derived.Test.YtigdlmpjijhpaaaGreatK09
import Derived.LoopN
set_option linter.all false
namespace Go.Proofs.YtigdlmpjijhpaaaGreat.Ax
open Go Go.RowKit
def QPa(x:Option Oper)[k:Held (Oper->Prop)]:Prop:=match x with
 | some o=>k.it o
 | none=>False
def QQa(b s:Nat):Nat:=b+s
def VK(x:Option (Ob × (Nat->AV)))(h:List Ob)(id:Nat)[k:Held (AV->List Ob->Prop)]:Prop:=match x with
 | some (ob,mk)=>h[id]? =some .res/\k.it (mk id) (h.set id ob)
 | none=>False
def va:Op->Bool
 | .alloc .. | .box .. | .buildSlice .. | .makeSlice .. | .makeMap .. =>true
 | _=>false
theorem qJa(op:Op):va op=true↔cls op=3:=by
 cases op
 case call c=>
  obtain⟨callee,args,a⟩:=c
  cases callee with
  | builtin b=>cases b<;>simp[va,cls]
  | value x=>simp[va,cls]
  | invoke r m=>simp[va,cls]
 case binOp op t y z u=>simp only[va,cls];split<;>simp
 all_goals simp[va,cls]
def X4(P:Program)(ops:Array Oper)(b:Nat)(q:Ent)(o:Oper)(K:Env->List Ob->Prop)(T:Env)(h:List Ob):Prop:=
 if va o.op then @VK (jp P T o.op) h (QQa b q.2.1) ⟨λx h'=>K (qK T o.dst x) h'⟩ else K3 P T h o (λT h=>jk P ops T h q.2.2/\K T h)
def Js(P:Program)(ops:Array Oper)(b:Nat)(q:Ent)(K:Env->List Ob->Prop)(T:Env)(h:List Ob)(o:Oper):Prop:=match o.guard with
 | none=>X4 P ops b q o K T h
 | some (j,a)=> @vV (wE ops j T) a ⟨X4 P ops b q o K T h⟩ ⟨jk P ops (qK T o.dst (.v undef)) h q.2.2/\K (qK T o.dst (.v undef)) h⟩
def wpQ(P:Program)(ops:Array Oper)(b:Nat)(K:Env->List Ob->Prop):List Ent->Env->List Ob->Prop
 | [],T,h=>K T h
 | q::r,T,h=> @QPa ops[q.1]? ⟨Js P ops b q (wpQ P ops b K r) T h⟩
section
variable {P:Program} {N:Nat} {B:Bs} {ops:Array Oper} {T:Env} {h:List Ob} {Q Q':jA}
theorem YG{o:Oper}{K K':Env->List Ob->Prop}(k:K1 P T h o K)(b:∀T h,K T h->K' T h):K1 P T h o K':=by
 unfold K1 at k⊢
 split
 ·rename_i l ar a
  rw[a] at k
  exact Qv k λh' q=>b _ _ q
 ·rename_i a
  rw[a] at k
  exact Q3 k b
theorem VL{K:Env->List Ob->Prop}:∀(l:List Oper) {T:Env} {h:List Ob},wpR P ops K l T h->wpA P ops K l T h
 | [],_,_,k=>k
 | o::r,T,h,k=>by
   have a:∀T h,wpR P ops K r T h->wpA P ops K r T h:=λT h=>VL r
   unfold wpR at k
   unfold wpA
   cases g:o.guard with
   | none=>simp only[g] at k ⊢;exact YG (yxa k) a
   | some q=>
     obtain⟨j,i⟩:=q
     simp only[g,wE] at k⊢
     cases f:(ops[j]?).bind (·.dst) with
     | none=>simp only[f,vV] at k
     | some d=>
       simp only[f] at k⊢
       unfold vV at k
       split at k
       ·rename_i b c
        rw[c]
        refine⟨λe=>YG (yxa (k.1 (by simp[e]))) a,λe=>a _ _ (k.2 (by simp[e]))⟩
       ·rename_i vs c
        rw[c]
        exact a _ _ k
       ·exact k.elim
theorem qz:∀(c:Code),okC N c=true->∀ {Q:jA} {T:Env} {h:List Ob},wpC P N B c Q T h->AWp P N B c Q T h:=by
 intro c
 induction c with
 | skip=>intro _ Q T h k;exact Qs k
 | label l=>intro _ Q T h k;exact vGa k
 | seq a b i j=>
   intro g Q T h k
   simp only[okC,zj] at g
   refine Vb ((i g.1 k).mono λe T h q=>?_)
   cases e<;>first
    | exact j g.2 q
    | exact q
 | region id ops d=>
   intro g Q T h k
   cases d with
   | false=>exact xha g (VL _ k)
   | true=>exact k
 | cond x a b i j=>
   intro g Q T h k
   simp only[okC,zj] at g
   unfold wpC VC at k
   split at k
   ·rename_i t n
    exact vU n (λe=>i g.1 (k.1 e)) (λe=>j g.2 (k.2 e))
   ·exact k.elim
 | block id c m=>intro g Q T h k;exact xW (m g k)
 | loop c m=>intro _ Q T h k;exact k
 | exit id=>intro _ Q T h k;exact yda k
 | ret=>intro _ Q T h k;exact QCa k
 | rangeFunc f p a b _ _=>intro _ Q T h k;exact k
 | scope b _=>intro _ Q T h k;exact k
 | goto l=>intro _ Q T h k;exact k
 | refuse w=>intro _ Q T h k;exact k
theorem kQa{b:Nat}{K:Env->List Ob->Prop}:∀(l:List Ent) {T:Env} {h:List Ob},wpQ P ops b K l T h->wpE P ops b K l T h
 | [],_,_,k=>k
 | q::r,T,h,k=>by
   have f:∀T h,wpQ P ops b K r T h->wpE P ops b K r T h:=λT h=>kQa r
   unfold wpQ QPa at k
   unfold wpE
   split at k
   ·rename_i o u
    rw[u]
    simp only
    have k:Js P ops b q (wpQ P ops b K r) T h o:=k
    by_cases n:cls o.op=3
    ·have s:=(qJa o.op).2 n
     have a:X4 P ops b q o (wpQ P ops b K r) T h->Qw P (b+q.2.1) o (wpE P ops b K r) T h:=λk=>by
      unfold X4 at k
      rw[if_pos s] at k
      unfold VK at k
      unfold Qw
      split at k
      ·rename_i ob mk t;rw[t];exact⟨k.1,f _ _ k.2⟩
      ·exact k.elim
     rw[vj n]
     unfold VF xY
     unfold Js at k
     cases i:o.guard with
     | none=>simp only[i] at k ⊢;exact a k
     | some p=>
       obtain⟨j,m⟩:=p
       simp only[i,wE] at k⊢
       cases g:(ops[j]?).bind (·.dst) with
       | none=>simp only[g,vV] at k
       | some d=>
         simp only[g] at k⊢
         unfold vV at k
         split at k
         ·rename_i b c
          rw[c]
          exact⟨λe=>a (k.1 (by simp[e])),λe=>f _ _ (k.2 (by simp[e])).2⟩
         ·rename_i vs c
          rw[c]
          exact f _ _ k.2
         ·exact k.elim
    ·have s:¬ va o.op=true:=λh=>n ((qJa o.op).1 h)
     have a:X4 P ops b q o (wpQ P ops b K r) T h->wj P T h o (λT h=>jk P ops T h q.2.2/\wpE P ops b K r T h):=λk=>by
      unfold X4 at k
      rw[if_neg s] at k
      exact Q3 (xna k) λT h ⟨k1,k2⟩=>⟨k1,f _ _ k2⟩
     rw[vW n]
     unfold kU xY yya
     unfold Js at k
     cases i:o.guard with
     | none=>simp only[i] at k ⊢;exact a k
     | some p=>
       obtain⟨j,m⟩:=p
       simp only[i,wE] at k⊢
       cases g:(ops[j]?).bind (·.dst) with
       | none=>simp only[g,vV] at k
       | some d=>
         simp only[g] at k⊢
         unfold vV at k
         split at k
         ·rename_i b c
          rw[c]
          exact⟨λe=>a (k.1 (by simp[e])),λe=>let q:=k.2 (by simp[e]);⟨q.1,f _ _ q.2⟩⟩
         ·rename_i vs c
          rw[c]
          exact⟨k.1,f _ _ k.2⟩
         ·exact k.elim
   ·exact k.elim
theorem zV{id:Nat}(d:P.follows .mixedOrders=true)(L:List Ob)(k:Nat)(a:List Ent)(e:L=List.replicate k .res)(c:ops.toList.all (kC N)=true)(b:Qy ops k a=true)(q:wpQ P ops h.length (Q .normal) a T (h++L)): @wM P N B ⟨(.region id ops true,Q)⟩ T h:=
 yGa d k a c b (kQa _ (e▸q))
section
variable {b:Nat} {K:Env->List Ob->Prop} {q:Ent} {o:Oper} {dst:Option Tmp} {op:Op} {type:TypeId} {pos:String} {after:Array Edge}
theorem QRa:wpQ P ops b K [] T h=K T h:=id rfl
theorem yHa{r:List Ent}:wpQ P ops b K (q::r) T h= @QPa ops[q.1]? ⟨Js P ops b q (wpQ P ops b K r) T h⟩:=id rfl
theorem vUa{k:Oper->Prop}: @QPa (some o) ⟨k⟩=k o:=id rfl
theorem xza:Js P ops b q K T h ⟨dst,op,type,pos,after,none⟩=X4 P ops b q ⟨dst,op,type,pos,after,none⟩ K T h:=id rfl
theorem xAa{j:Nat}{a:Bool}:Js P ops b q K T h ⟨dst,op,type,pos,after,some (j,a)⟩= @vV (wE ops j T) a ⟨X4 P ops b q ⟨dst,op,type,pos,after,some (j,a)⟩ K T h⟩ ⟨jk P ops (qK T dst (.v undef)) h q.2.2/\K (qK T dst (.v undef)) h⟩:=id rfl
theorem QSa{g:Option (Nat × Bool)}(a:va op=true):X4 P ops b q ⟨dst,op,type,pos,after,g⟩ K T h= @VK (jp P T op) h (QQa b q.2.1) ⟨λx h'=>K (qK T dst x) h'⟩:=by
 unfold X4;rw[if_pos a]
theorem X4a{g:Option (Nat × Bool)}(a:va op=false):X4 P ops b q ⟨dst,op,type,pos,after,g⟩ K T h=K3 P T h ⟨dst,op,type,pos,after,g⟩ (λT h=>jk P ops T h q.2.2/\K T h):=by
 unfold X4;rw[if_neg];rw[a];simp
theorem qKa{ob:Ob}{mk:Nat->AV}{i:Nat}{k:AV->List Ob->Prop}: @VK (some (ob,mk)) h i ⟨k⟩=(h[i]? =some .res/\k (mk i) (h.set i ob)):=id rfl
theorem yIa{a c s:Nat}:QQa (a+c) s=a+(c+s):=Nat.add_assoc a c s
theorem yJa{α:Type}{l:List α}{s:Nat}:QQa l.length s=l.length+s:=id rfl
theorem zKa:jk P ops T h []=True:=id rfl
theorem W5{l:Nat}{r:List Nat}:jk P ops T h (l::r)=(vI P ops T h l/\jk P ops T h r):=id rfl
theorem vVa{l:Nat}:vI P ops T h l=(match ops[l]? with
 | some o=>match o.dst with
   | some d=>Zj P ops T h o=some (T d)
   | none=>False
 | none=>False):=id rfl
theorem vWa:Zj P ops T h ⟨dst,op,type,pos,after,none⟩=(zW P T h op).map (·.1):=id rfl
def yKa(t:AV)(a:Bool)(x:Option AV):Option AV:=match t with
 | .v (.bool b)=>if b=a then x else some (.v undef)
 | .v (.tuple _)=>some (.v undef)
 | _=>none
theorem vXa{j:Nat}{a:Bool}:Zj P ops T h ⟨dst,op,type,pos,after,some (j,a)⟩=yKa (wE ops j T) a ((zW P T h op).map (·.1)):=by
 unfold Zj wE
 simp only
 cases b:(ops[j]?).bind (·.dst) with
 | none=>rfl
 | some d=>
   simp only
   generalize T d=t
   unfold yKa
   rfl
theorem X5a{b a:Bool}{x:Option AV}:yKa (.v (.bool b)) a x=if b=a then x else some (.v undef):=id rfl
theorem X6a{vs:Array Value}{a:Bool}{x:Option AV}:yKa (.v (.tuple vs)) a x=some (.v undef):=id rfl
theorem xBa{t:TypeId}:va (.alloc t)=true:=id rfl
theorem yLa{t:TypeId}{x:Operand}:va (.box t x)=true:=id rfl
theorem QTa{t:TypeId}{n:Nat}{a:Array (Nat × Operand)}:va (.buildSlice t n a)=true:=id rfl
theorem QUa{t:TypeId}{x y:Operand}:va (.makeSlice t x y)=true:=id rfl
theorem QVa{t:TypeId}{r:Option Operand}:va (.makeMap t r)=true:=id rfl
theorem vYa{x:Operand}:va (.move x)=false:=id rfl
theorem qLa{x:Operand}:va (.assign x)=false:=id rfl
theorem vZa{x y z:Operand}:va (.pick x y z)=false:=id rfl
theorem xCa{t:TypeId}{a:Array (Nat × Operand)}:va (.build t a)=false:=id rfl
theorem v0a{t:TypeId}{x:Operand}:va (.load t x)=false:=id rfl
theorem xDa{t:TypeId}{x y:Operand}:va (.store t x y)=false:=id rfl
theorem W6{x:Operand}:va (.nilCheck x)=false:=id rfl
theorem xEa{b:BinOp}{t u:TypeId}{x y:Operand}:va (.binOp b t x y u)=false:=id rfl
theorem v1a{b:UnOp}{t:TypeId}{x:Operand}:va (.unOp b t x)=false:=id rfl
theorem zLa{t u:TypeId}{x:Operand}:va (.convert t u x)=false:=id rfl
theorem W7{f:Fn}{aZ a:Array Operand}:va (.makeFunc f aZ a)=false:=id rfl
theorem VM{t:TypeId}{x:Operand}{n:Nat}:va (.fieldAddr t x n)=false:=id rfl
theorem xFa{t:TypeId}{x:Operand}{n:Nat}:va (.field t x n)=false:=id rfl
theorem VN{t:TypeId}{x y:Operand}:va (.indexAddr t x y)=false:=id rfl
theorem xGa{t:TypeId}{x y:Operand}:va (.index t x y)=false:=id rfl
theorem xHa{t:TypeId}{x:Operand}{l m k:Option Operand}:va (.slice t x l m k)=false:=id rfl
theorem qMa{t:TypeId}{x y z:Operand}:va (.insert t x y z)=false:=id rfl
theorem qNa{t:TypeId}{x y:Operand}{o:Bool}:va (.lookup t x y o)=false:=id rfl
theorem zMa{x:Operand}{n:Nat}:va (.extract x n)=false:=id rfl
theorem v2a{c:Call}:va (.call c)=false:=id rfl
theorem X7a{t:TypeId}{x y:Operand}:qx (.makeSlice t x y)=none:=id rfl
theorem X8a{t:TypeId}{r:Option Operand}:qx (.makeMap t r)=none:=id rfl
theorem v3a{t:TypeId}{x:Operand}{n:Nat}:qx (.field t x n)=none:=id rfl
theorem v4a{t:TypeId}{x y:Operand}:qx (.index t x y)=none:=id rfl
theorem v5a{t:TypeId}{x:Operand}{l m k:Option Operand}:qx (.slice t x l m k)=none:=id rfl
theorem xIa{t:TypeId}{x y z:Operand}:qx (.insert t x y z)=none:=id rfl
theorem xJa{t:TypeId}{x y:Operand}{o:Bool}:qx (.lookup t x y o)=none:=id rfl
end
theorem zO{c:Code}(a:okC N c=true)(I:Nat->Env->List Ob->Prop)(n:Nat)(h0:I n T h)
  (round:∀n T h,I n T h->wpC P N B c (wL (λb h'=>∃n',n'<n/\I n' b h') Q) T h): @wM P N B ⟨(.loop c,Q)⟩ T h:=
 Zo I n h0 λn T h k=>qz c a (round n T h k)
def X9a(P:Program)(N:Nat)(B:Bs)(n:Nat)[x:Held (Code × jA)](T:Env)(h:List Ob):Prop:=
 ∀(φ:Nat->Ob),Upto φ h.length->∀(w:World) (g:Gh) (a:Act),Rel N B w g (fill φ h) a T->Code.rounds P x.it.1 (λe c w'=>∃b h',x.it.2 e b h'/\Aft N B φ w g h b h' c w') n a w
theorem KC{c:Code}{Q Q':Exit->Act->World->Prop}(b:∀e a w,Q e a w->Q' e a w):∀(n:Nat) {a:Act} {w:World},Code.rounds P c Q n a w->Code.rounds P c Q' n a w
 | 0,_,_,k=>k
 | n+1,a,w,k=>by
   rw[rounds_succ] at k⊢
   refine wp_mono k λe d w' q=>?_
   cases e<;>first
    | exact KC b n q
    | exact b _ _ _ q
theorem wy{c:Code}(n:Nat)(k: @X9a P N B n ⟨(c,Q)⟩ T h): @wM P N B ⟨(.loop c,Q)⟩ T h:=λφ b w g a r=>wp_loop_rounds n (k φ b w g a r)
theorem j7{c:Code}{n:Nat}(d:okC N c=true)(k:wpC P N B c (wL (λf h'=> @X9a P N B n ⟨(c,Q)⟩ f h') Q) T h): @X9a P N B (n+1) ⟨(c,Q)⟩ T h:=λφ i w g a r=>by
 rw[rounds_succ]
 refine wp_mono (qz c d k φ i w g a r) λe u w' ⟨f,h',j,b⟩=>?_
 cases e with
 | normal=>
   have q:=b.len
   obtain⟨g',p,m,l⟩:=b
   exact KC (λ_ _ _ ⟨s,o,t,v⟩=>⟨s,o,t,v.trans p l⟩) n (j φ (i.mono q) w' g' u m)
 | _=>exact⟨f,h',j,b⟩
theorem zl{f:FuncId}(fn:Func){c:Code}{aZ:List AV}{R:AV->List Ob->Prop}(rs:List ResultVar)(N:Nat)(e:P.funcs[f]? =some fn)(g:fn.body=some c)(j:fn.ntmps=N)(a:fn.results.toList=rs)(i:aZ.length.ble N=true)(b:JF P f=true)(d:okC N c=true)(hex:∃r h',R r h'/\ResK h h')
  (k:∀B,wpC P N B c (qxa P rs h R) (nth aZ) h):ACalls P f aZ h R:=yu e g j a (ji i) b hex λB=>qz c d (k B)
end
theorem Xqa{x:Value}:AV.one (.v x)=x.oneCell':=id rfl
theorem Kaa{e:Nat}{xs:List (List AV)}:AV.one (.sl e xs)=true:=id rfl
theorem Kba{i s:Nat}:AV.one (.tl i s)=true:=id rfl
theorem QWa{i s:Nat}:AV.one (.ptr i s)=true:=id rfl
theorem Kca{a:AV}{e i k:Nat}:AV.one (.ep a e i k)=true:=id rfl
theorem Kda:AV.one .em=true:=id rfl
theorem Kea{a:AV}{e i n:Nat}:AV.one (.vw a e i n)=true:=id rfl
theorem yMa:AV.cells .em=some [.em]:=id rfl
theorem yNa{a:AV}{e i n:Nat}:AV.cells (.vw a e i n)=some [.vw a e i n]:=id rfl
theorem Kfa{i:Nat}:AV.one (.mp i)=true:=id rfl
theorem yOa{i:Nat}:AV.cells (.mp i)=some [.mp i]:=id rfl
theorem Kga{f:Fn}{a b:List AV}:AV.one (.fn f a b)=true:=id rfl
theorem yPa{cs:List AV}:AV.cells (.ag cs)=if cs.all AV.one then some cs else none:=id rfl
theorem kRa{x:Value}:AV.cells (.v x)=if x.oneCell' then some [.v x] else none:=id rfl
theorem yQa{e:Nat}{xs:List (List AV)}:AV.cells (.sl e xs)=some [.sl e xs]:=id rfl
theorem yRa{i s:Nat}:AV.cells (.tl i s)=some [.tl i s]:=id rfl
theorem v6a{i s:Nat}:AV.cells (.ptr i s)=some [.ptr i s]:=id rfl
theorem ySa{a:AV}{e i k:Nat}:AV.cells (.ep a e i k)=some [.ep a e i k]:=id rfl
theorem yTa{f:Fn}{a b:List AV}:AV.cells (.fn f a b)=some [.fn f a b]:=id rfl
def YH(o:Option Ob)(st:Nat):Option (List (List AV)):=match o with
 | some (.row _ _ xs s)=>if s=st then some xs else none
 | _=>none
def eTl(o:Option Ob):Option Nat:=match o with
 | some (.row _ e _ _)=>some e
 | _=>none
section
variable {h h':List Ob}
theorem v7a{e:Nat}{xs:List (List AV)}:zZ h (.sl e xs)=some xs:=id rfl
theorem v8a:zZ h .em=some []:=id rfl
theorem kH{a:AV}{e i n:Nat}:zZ h (.vw a e i n)=(zZ h a).bind λxs=>if i+n<=xs.length/\(n=0∨eOf h a=some e) then some ((xs.drop i).take n) else none:=id rfl
theorem ZP{a:AV}{e i n:Nat}:eOf h (.vw a e i n)=(eOf h a).bind λb=>if b=e then some e else none:=id rfl
theorem xKa{k:Nat}:zZ h (.v (.slice none 0 k))=some []:=id rfl
theorem qS{a st:Nat}:zZ h (.tl a st)=YH h[a]? st:=id rfl
theorem vO{ty e s st:Nat}{xs:List (List AV)}:YH (some (.row ty e xs s)) st=if s=st then some xs else none:=id rfl
theorem Kha{e:Nat}{xs:List (List AV)}:eOf h (.sl e xs)=some e:=id rfl
theorem j5{a st:Nat}:eOf h (.tl a st)=eTl h[a]? :=id rfl
theorem yh{ty e s:Nat}{xs:List (List AV)}:eTl (some (.row ty e xs s))=some e:=id rfl
theorem qOa{x:Value}:zZ h (.v x)=zZ h' (.v x):=by
 unfold zZ
 cases x<;>first
  | rfl
  | (rename_i a n k;cases a<;>cases n<;>rfl)
structure SlOf (h:List Ob) (a:AV) (e:Nat) (xs:List (List AV)):Prop where
 rows:zZ h a=some xs
 ee:xs≠[]->eOf h a=some e
theorem zNa{L:List Ob}:∀(a:AV) {e:Nat},eOf h a=some e->eOf (h++L) a=some e
 | .sl _ _,_,b=>b
 | .tl id st,e,b=>by
   simp only[eOf] at b⊢
   split at b
   ·rename_i ty f ys s d
    rw[zf d]
    exact b
   ·cases b
 | .vw a g i n,e,b=>by
   simp only[eOf] at b⊢
   cases c:eOf h a with
   | none=>rw[c] at b;cases b
   | some j=>rw[c] at b;rw[zNa a c];exact b
 | .v _,_,b | .em,_,b | .ptr _ _,_,b | .ep _ _ _ _,_,b | .mp _,_,b | .ag _,_,b | .tup _,_,b | .fn _ _ _,_,b | .bad,_,b=>by cases b
theorem VO{L:List Ob}:∀(a:AV) {xs:List (List AV)},zZ h a=some xs->zZ (h++L) a=some xs
 | .sl _ _,_,b=>b
 | .em,_,b=>b
 | .tl id st,xs,b=>by
   simp only[zZ] at b⊢
   split at b
   ·rename_i ty g ys s f
    rw[zf f]
    exact b
   ·cases b
 | .vw a e i n,xs,b=>by
   simp only[zZ] at b⊢
   cases c:zZ h a with
   | none=>rw[c] at b;cases b
   | some ys=>
     rw[c] at b
     rw[VO a c]
     simp only[Option.bind_some] at b⊢
     split at b
     ·rename_i d
      rw[if_pos ⟨d.1,d.2.imp id (zNa a)⟩]
      exact b
     ·cases b
 | .v x,xs,b=>by rw[<-qOa (h:=h)];exact b
 | .ptr _ _,_,b | .ep _ _ _ _,_,b | .mp _,_,b | .ag _,_,b | .tup _,_,b | .fn _ _ _,_,b | .bad,_,b=>by cases b
theorem SlOf.app{h:List Ob}{a:AV}{e:Nat}{xs:List (List AV)}(s:SlOf h a e xs)(L:List Ob):SlOf (h++L) a e xs:=⟨VO a s.rows,λk=>zNa a (s.ee k)⟩
theorem xLa:∀ {a:AV} {xs:List (List AV)},zZ h a=some xs->AV.one a=true
 | .sl _ _,_,_ | .em,_,_ | .tl _ _,_,_ | .vw _ _ _ _,_,_=>rfl
 | .v x,xs,b=>by
   unfold zZ at b
   split at b<;>rename_i heq<;>first
    | (cases heq;done)
    | (injection heq with heq;subst heq;rfl)
    | cases b
 | .ptr _ _,_,b | .ep _ _ _ _,_,b | .mp _,_,b | .ag _,_,b | .tup _,_,b | .fn _ _ _,_,b | .bad,_,b=>by cases b
theorem SlOf.one{h:List Ob}{a:AV}{e:Nat}{xs:List (List AV)}(s:SlOf h a e xs):AV.one a=true:=xLa s.rows
theorem SlOf.cells{h:List Ob}{a:AV}{e:Nat}{xs:List (List AV)}(s:SlOf h a e xs):AV.cells a=some [a]:=by
 have c:=s.one
 obtain⟨b,_⟩:=s
 cases a with
 | v x=>rw[kRa,if_pos (by simpa [Xqa] using c)]
 | ag cs=>cases b
 | tup cs=>cases b
 | bad=>cases b
 | _=>rfl
theorem SlOf.at{h:List Ob}{a:AV}{e:Nat}{xs:List (List AV)}(s:SlOf h a e xs){i:Nat}(hi:i<xs.length):eOf h a=some e:=s.ee λb=>by rw[b] at hi;simp at hi
end
theorem wl0:IntKind.wrap .i64 0=0:=by decide
theorem wl1:IntKind.wrap .i64 1=1:=by decide
theorem wl2:IntKind.wrap .i64 2=2:=by decide
theorem wl3:IntKind.wrap .i64 3=3:=by decide
theorem wl4:IntKind.wrap .i64 4=4:=by decide
theorem wl5:IntKind.wrap .i64 5=5:=by decide
theorem wl6:IntKind.wrap .i64 6=6:=by decide
theorem wl7:IntKind.wrap .i64 7=7:=by decide
theorem wl8:IntKind.wrap .i64 8=8:=by decide
theorem wl9:IntKind.wrap .i64 9=9:=by decide
theorem WPa:IntKind.wrap .i64 10=10:=by decide
theorem WQa:IntKind.wrap .i64 11=11:=by decide
theorem WRa:IntKind.wrap .i64 12=12:=by decide
theorem WSa:IntKind.wrap .i64 13=13:=by decide
theorem WTa:IntKind.wrap .i64 14=14:=by decide
theorem WUa:IntKind.wrap .i64 15=15:=by decide
theorem WVa:IntKind.wrap .i64 16=16:=by decide
theorem WWa:IntKind.wrap .i64 17=17:=by decide
theorem WXa:IntKind.wrap .i64 18=18:=by decide
theorem WYa:IntKind.wrap .i64 19=19:=by decide
theorem WZa:IntKind.wrap .i64 20=20:=by decide
theorem wlm:IntKind.wrap .i64 (-1)= -1:=by decide
attribute [go_sem] wl0 wl1 wl2 wl3 wl4 wl5 wl6 wl7 wl8 wl9 WPa WQa WRa WSa WTa WUa WVa WWa WXa WYa WZa wlm
theorem yUa{x:Operand}:qx (.move x)=none:=id rfl
theorem xMa{x:Operand}:qx (.assign x)=none:=id rfl
theorem yVa{x:Operand}{y:Operand}{z:Operand}:qx (.pick x y z)=none:=id rfl
theorem v9a{t:TypeId}:qx (.alloc t)=none:=id rfl
theorem QXa{t:TypeId}{x:Operand}:qx (.box t x)=none:=id rfl
theorem waa{t:TypeId}{a:Array (Nat × Operand)}:qx (.build t a)=none:=id rfl
theorem VP{t:TypeId}{n:Nat}{a:Array (Nat × Operand)}:qx (.buildSlice t n a)=none:=id rfl
theorem yWa{t:TypeId}{x:Operand}:qx (.load t x)=none:=id rfl
theorem wba{t:TypeId}{x:Operand}{y:Operand}:qx (.store t x y)=none:=id rfl
theorem zOa{x:Operand}:qx (.nilCheck x)=none:=id rfl
theorem wca{b:BinOp}{t:TypeId}{x:Operand}{y:Operand}{u:TypeId}:qx (.binOp b t x y u)=none:=id rfl
theorem yXa{q:UnOp}{t:TypeId}{x:Operand}:qx (.unOp q t x)=none:=id rfl
theorem qPa{t:TypeId}{u:TypeId}{x:Operand}:qx (.convert t u x)=none:=id rfl
theorem zPa{f:Fn}{aZ:Array Operand}{a:Array Operand}:qx (.makeFunc f aZ a)=none:=id rfl
theorem W8{t:TypeId}{x:Operand}{n:Nat}:qx (.fieldAddr t x n)=none:=id rfl
theorem W9{t:TypeId}{x:Operand}{y:Operand}:qx (.indexAddr t x y)=none:=id rfl
theorem qQa{x:Operand}{n:Nat}:qx (.extract x n)=none:=id rfl
theorem yYa{b:Builtin}{aZ:Array Operand}{a:Array TypeId}:qx (.call ⟨.builtin b,aZ,a⟩)=none:=id rfl
theorem kw{b:Bool}(e:(b==false)=false):b=true:=by cases b<;>simp_all
theorem kx{b:Bool}(e:(b==false)=true):b=false:=by cases b<;>simp_all
theorem xo{b:Bool}(e:(b==true)=false):b=false:=by cases b<;>simp_all
theorem xq{b:Bool}(e:(b==true)=true):b=true:=by cases b<;>simp_all
attribute [go_sem] yUa xMa yVa v9a QXa waa VP yWa wba zOa wca yXa qPa zPa W8 W9 qQa yYa
attribute [go_sem] QRa yHa vUa xza xAa QSa X4a qKa yIa yJa zKa W5 vVa vWa vXa X5a X6a xBa yLa QTa QUa QVa vYa qLa vZa xCa v0a xDa W6 xEa v1a zLa W7 VM xFa VN xGa xHa qMa qNa zMa v2a X7a X8a v3a v4a v5a xIa xJa
attribute [go_sem] yoa QGa QHa vKa yka xla yla yma yna QFa vJa QIa ypa yqa VD vLa Xl xma yra vMa ysa QJa yta yua zEa QKa QLa yva ywa VE K9a X2a X3a vIa xja
 wE ev evl evs ofV nth cut lay wJ JA yz Qe qha Xqa Kda Kea Kfa yMa yNa yOa v8a kH ZP Kaa Kba QWa Kca Kga yPa kRa yQa yRa v6a ySa yTa part Qf yA v7a xKa qS vO Kha j5 yh xaa ZJ w6a kFa j8a j9a qka QZ Qq Vr JB XZa zya kp kT xR kGa jp Qj qla Qg kr kK xV xb jP y8 qia qja xQ wt
 zW Zn Zi wT JH QDa QEa yga yha yia yja Value.oneCell'
attribute [go_sem] List.head?_cons eq_self zP Option.getD_some Option.isSome_some if_true if_false Option.map_some Option.map_none Option.bind_some Option.bind_none List.map_cons List.map_nil List.length_cons List.length_nil ze List.cons_append List.nil_append zU
 List.set_cons_zero List.set_cons_succ List.getElem?_cons_zero List.getElem?_cons_succ List.getElem?_nil List.all_cons List.all_nil Bool.and_true Bool.and_self Bool.true_and Bool.false_eq_true and_self and_true true_and ne_eq not_false_eq_true
 List.take_succ_cons List.take_zero List.drop_succ_cons List.drop_zero beq_self_eq_true decide_true decide_false Nat.zero_add Nat.add_zero Bool.not_true Bool.not_false List.getElem?_toArray Bool.true_beq Bool.false_beq Bool.false_and Bool.and_false Bool.true_or Bool.or_true Bool.false_or Bool.or_false
attribute [go_sem] Nat.reduceAdd Nat.reduceMul Nat.reduceSub Nat.reduceLT Nat.reduceLeDiff Nat.reduceEqDiff reduceIte reduceCtorEq Int.reduceEq Int.reduceLT Int.reduceLE Int.reduceBEq Int.reduceToNat Int.reduceAdd Int.cast_ofNat_Int
