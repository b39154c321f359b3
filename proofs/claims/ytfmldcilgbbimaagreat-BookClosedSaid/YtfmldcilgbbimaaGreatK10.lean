/-
  Joined.
-/
import Derived.Test.YtfmldcilgbbimaaGreatK09
import Derived.LoopN
set_option linter.unusedSimpArgs false
set_option linter.unusedVariables false
namespace Go.Proofs.YtfmldcilgbbimaaGreat.Ax
open Go Go.RowKit
def Q4a (x:Option Oper) [k:Held (Oper->Prop)]:Prop:=match x with
 | some o=>k.it o
 | none=>False
def Q5a (b s:Nat):Nat:=b+s
def zsa (x:Option (Ob × (Nat->AV))) (h:List Ob) (id:Nat) [k:Held (AV->List Ob->Prop)]:Prop:=match x with
 | some (ob,mk)=>h[id]? =some .res/\k.it (mk id) (h.set id ob)
 | none=>False
def xS:Op->Bool
 | .alloc .. | .box .. | .buildSlice .. | .makeSlice .. | .makeMap .. =>true
 | _=>false
theorem qBa (op:Op):xS op=true↔cls op=3:=by
 cases op
 case call c=>
  obtain ⟨callee,args,a⟩:=c
  cases callee with
  | builtin b=>cases b<;>simp[xS,cls]
  | value x=>simp[xS,cls]
  | invoke r m=>simp[xS,cls]
 case binOp op t y z u=>simp only[xS,cls];split<;>simp
 all_goals simp[xS,cls]
def KU (P:Program) (ops:Array Oper) (b:Nat) (q:Ent) (o:Oper) (K:Env->List Ob->Prop) (T:Env) (h:List Ob):Prop:=
 if xS o.op then @zsa (qy P T o.op) h (Q5a b q.2.1) ⟨λx h'=>K (zZ T o.dst x) h'⟩ else WV P T h o (λT h=>qA P ops T h q.2.2/\K T h)
def VE (P:Program) (ops:Array Oper) (b:Nat) (q:Ent) (K:Env->List Ob->Prop) (T:Env) (h:List Ob) (o:Oper):Prop:=match o.guard with
 | none=>KU P ops b q o K T h
 | some (j,a)=> @kW (vI ops j T) a ⟨KU P ops b q o K T h⟩ ⟨qA P ops (zZ T o.dst (.v undef)) h q.2.2/\K (zZ T o.dst (.v undef)) h⟩
def wpQ (P:Program) (ops:Array Oper) (b:Nat) (K:Env->List Ob->Prop):List Ent->Env->List Ob->Prop
 | [],T,h=>K T h
 | q::r,T,h=> @Q4a ops[q.1]? ⟨VE P ops b q (wpQ P ops b K r) T h⟩
section
variable {P:Program} {N:Nat} {B:Bs} {ops:Array Oper} {T:Env} {h:List Ob} {Q Q':jv}
theorem Yr {o:Oper} {K K':Env->List Ob->Prop} (k:Vo P T h o K) (b:∀T h,K T h->K' T h):Vo P T h o K':=by
 unfold Vo at k⊢
 split
 ·rename_i l ar a
  rw[a] at k
  exact ZY k λh' q=>b _ _ q
 ·rename_i a
  rw[a] at k
  exact QJ k b
theorem qCa {K:Env->List Ob->Prop}:∀(l:List Oper) {T:Env} {h:List Ob},wpR P ops K l T h->wpA P ops K l T h
 | [],_,_,k=>k
 | o::r,T,h,k=>by
   have a:∀T h,wpR P ops K r T h->wpA P ops K r T h:=λT h=>qCa r
   unfold wpR at k
   unfold wpA
   cases g:o.guard with
   | none=>simp only[g] at k ⊢;exact Yr (yJa k) a
   | some q=>
     obtain ⟨j,i⟩:=q
     simp only[g,vI] at k⊢
     cases f:(ops[j]?).bind (·.dst) with
     | none=>simp only[f,kW] at k
     | some d=>
       simp only[f] at k⊢
       unfold kW at k
       split at k
       ·rename_i b c
        rw[c]
        refine ⟨λe=>Yr (yJa (k.1 (by simp[e]))) a,λe=>a _ _ (k.2 (by simp[e]))⟩
       ·rename_i vs c
        rw[c]
        exact a _ _ k
       ·exact k.elim
theorem zL:∀(c:Code),okC N c=true->∀ {Q:jv} {T:Env} {h:List Ob},wpC P N B c Q T h->AWp P N B c Q T h:=by
 intro c
 induction c with
 | skip=>intro _ Q T h k;exact yka k
 | label l=>intro _ Q T h k;exact vDa k
 | seq a b j i=>
   intro g Q T h k
   simp only[okC,Bool.and_eq_true] at g
   refine yj ((j g.1 k).mono λe T h q=>?_)
   cases e<;>first
    | exact i g.2 q
    | exact q
 | region id ops d=>
   intro g Q T h k
   cases d with
   | false=>exact xba g (qCa _ k)
   | true=>exact k
 | cond x a b j i=>
   intro g Q T h k
   simp only[okC,Bool.and_eq_true] at g
   unfold wpC Vs at k
   split at k
   ·rename_i t n
    exact yma n (λe=>j g.1 (k.1 e)) (λe=>i g.2 (k.2 e))
   ·exact k.elim
 | block id c m=>intro g Q T h k;exact XE (m g k)
 | loop c m=>intro _ Q T h k;exact k
 | exit id=>intro _ Q T h k;exact yla k
 | ret=>intro _ Q T h k;exact QLa k
 | rangeFunc f p a b _ _=>intro _ Q T h k;exact k
 | scope b _=>intro _ Q T h k;exact k
 | goto l=>intro _ Q T h k;exact k
 | refuse w=>intro _ Q T h k;exact k
theorem yTa {b:Nat} {K:Env->List Ob->Prop}:∀(l:List Ent) {T:Env} {h:List Ob},wpQ P ops b K l T h->wpE P ops b K l T h
 | [],_,_,k=>k
 | q::r,T,h,k=>by
   have f:∀T h,wpQ P ops b K r T h->wpE P ops b K r T h:=λT h=>yTa r
   unfold wpQ Q4a at k
   unfold wpE
   split at k
   ·rename_i o t
    rw[t]
    simp only
    have k:VE P ops b q (wpQ P ops b K r) T h o:=k
    by_cases n:cls o.op=3
    ·have s:=(qBa o.op).2 n
     have a:KU P ops b q o (wpQ P ops b K r) T h->ZZ P (b+q.2.1) o (wpE P ops b K r) T h:=λk=>by
      unfold KU at k
      rw[if_pos s] at k
      unfold zsa at k
      unfold ZZ
      split at k
      ·rename_i ob mk u;rw[u];exact ⟨k.1,f _ _ k.2⟩
      ·exact k.elim
     rw[ka n]
     unfold Vx jT
     unfold VE at k
     cases i:o.guard with
     | none=>simp only[i] at k ⊢;exact a k
     | some p=>
       obtain ⟨j,m⟩:=p
       simp only[i,vI] at k⊢
       cases g:(ops[j]?).bind (·.dst) with
       | none=>simp only[g,kW] at k
       | some d=>
         simp only[g] at k⊢
         unfold kW at k
         split at k
         ·rename_i b c
          rw[c]
          exact ⟨λe=>a (k.1 (by simp[e])),λe=>f _ _ (k.2 (by simp[e])).2⟩
         ·rename_i vs c
          rw[c]
          exact f _ _ k.2
         ·exact k.elim
    ·have s:¬ xS o.op=true:=λh=>n ((qBa o.op).1 h)
     have a:KU P ops b q o (wpQ P ops b K r) T h->vg P T h o (λT h=>qA P ops T h q.2.2/\wpE P ops b K r T h):=λk=>by
      unfold KU at k
      rw[if_neg s] at k
      exact QJ (zma k) λT h ⟨k1,k2⟩=>⟨k1,f _ _ k2⟩
     rw[kX n]
     unfold xK jT yKa
     unfold VE at k
     cases i:o.guard with
     | none=>simp only[i] at k ⊢;exact a k
     | some p=>
       obtain ⟨j,m⟩:=p
       simp only[i,vI] at k⊢
       cases g:(ops[j]?).bind (·.dst) with
       | none=>simp only[g,kW] at k
       | some d=>
         simp only[g] at k⊢
         unfold kW at k
         split at k
         ·rename_i b c
          rw[c]
          exact ⟨λe=>a (k.1 (by simp[e])),λe=>let q:=k.2 (by simp[e]);⟨q.1,f _ _ q.2⟩⟩
         ·rename_i vs c
          rw[c]
          exact ⟨k.1,f _ _ k.2⟩
         ·exact k.elim
   ·exact k.elim
theorem zn {id:Nat} (c:P.follows .mixedOrders=true) (L:List Ob) (k:Nat) (a:List Ent) (e:L=List.replicate k .res) (d:ops.toList.all (xq N)=true) (b:Vy ops k a=true) (q:wpQ P ops h.length (Q .normal) a T (h++L)): @yk P N B ⟨(.region id ops true,Q)⟩ T h:=
 ySa c k a d b (yTa _ (e▸q))
section
variable {b:Nat} {K:Env->List Ob->Prop} {q:Ent} {o:Oper} {dst:Option Tmp} {op:Op} {type:TypeId} {pos:String} {after:Array Edge}
theorem Q6a:wpQ P ops b K [] T h=K T h:=id rfl
theorem yUa {r:List Ent}:wpQ P ops b K (q::r) T h= @Q4a ops[q.1]? ⟨VE P ops b q (wpQ P ops b K r) T h⟩:=id rfl
theorem vTa {k:Oper->Prop}: @Q4a (some o) ⟨k⟩=k o:=id rfl
theorem xra:VE P ops b q K T h ⟨dst,op,type,pos,after,none⟩=KU P ops b q ⟨dst,op,type,pos,after,none⟩ K T h:=id rfl
theorem xsa {j:Nat} {a:Bool}:VE P ops b q K T h ⟨dst,op,type,pos,after,some (j,a)⟩= @kW (vI ops j T) a ⟨KU P ops b q ⟨dst,op,type,pos,after,some (j,a)⟩ K T h⟩ ⟨qA P ops (zZ T dst (.v undef)) h q.2.2/\K (zZ T dst (.v undef)) h⟩:=id rfl
theorem Q7a {g:Option (Nat × Bool)} (a:xS op=true):KU P ops b q ⟨dst,op,type,pos,after,g⟩ K T h= @zsa (qy P T op) h (Q5a b q.2.1) ⟨λx h'=>K (zZ T dst x) h'⟩:=by
 unfold KU;rw[if_pos a]
theorem Kea {g:Option (Nat × Bool)} (a:xS op=false):KU P ops b q ⟨dst,op,type,pos,after,g⟩ K T h=WV P T h ⟨dst,op,type,pos,after,g⟩ (λT h=>qA P ops T h q.2.2/\K T h):=by
 unfold KU;rw[if_neg];rw[a];simp
theorem qDa {ob:Ob} {mk:Nat->AV} {i:Nat} {k:AV->List Ob->Prop}: @zsa (some (ob,mk)) h i ⟨k⟩=(h[i]? =some .res/\k (mk i) (h.set i ob)):=id rfl
theorem yVa {a c s:Nat}:Q5a (a+c) s=a+(c+s):=Nat.add_assoc a c s
theorem yWa {α:Type} {l:List α} {s:Nat}:Q5a l.length s=l.length+s:=id rfl
theorem zta:qA P ops T h []=True:=id rfl
theorem WX {l:Nat} {r:List Nat}:qA P ops T h (l::r)=(wc P ops T h l/\qA P ops T h r):=id rfl
theorem vUa {l:Nat}:wc P ops T h l=(match ops[l]? with
 | some o=>match o.dst with
   | some d=>yG P ops T h o=some (T d)
   | none=>False
 | none=>False):=id rfl
theorem vVa:yG P ops T h ⟨dst,op,type,pos,after,none⟩=(zt P T h op).map (·.1):=id rfl
def yXa (t:AV) (a:Bool) (x:Option AV):Option AV:=match t with
 | .v (.bool b)=>if b=a then x else some (.v undef)
 | .v (.tuple _)=>some (.v undef)
 | _=>none
theorem vWa {j:Nat} {a:Bool}:yG P ops T h ⟨dst,op,type,pos,after,some (j,a)⟩=yXa (vI ops j T) a ((zt P T h op).map (·.1)):=by
 unfold yG vI
 simp only
 cases b:(ops[j]?).bind (·.dst) with
 | none=>rfl
 | some d=>
   simp only
   generalize T d=t
   unfold yXa
   rfl
theorem Kfa {b a:Bool} {x:Option AV}:yXa (.v (.bool b)) a x=if b=a then x else some (.v undef):=id rfl
theorem Kga {vs:Array Value} {a:Bool} {x:Option AV}:yXa (.v (.tuple vs)) a x=some (.v undef):=id rfl
theorem xta {t:TypeId}:xS (.alloc t)=true:=id rfl
theorem yYa {t:TypeId} {x:Operand}:xS (.box t x)=true:=id rfl
theorem Q8a {t:TypeId} {n:Nat} {a:Array (Nat × Operand)}:xS (.buildSlice t n a)=true:=id rfl
theorem Q9a {t:TypeId} {x y:Operand}:xS (.makeSlice t x y)=true:=id rfl
theorem Jaa {t:TypeId} {r:Option Operand}:xS (.makeMap t r)=true:=id rfl
theorem vXa {x:Operand}:xS (.move x)=false:=id rfl
theorem qEa {x:Operand}:xS (.assign x)=false:=id rfl
theorem vYa {x y z:Operand}:xS (.pick x y z)=false:=id rfl
theorem xua {t:TypeId} {a:Array (Nat × Operand)}:xS (.build t a)=false:=id rfl
theorem vZa {t:TypeId} {x:Operand}:xS (.load t x)=false:=id rfl
theorem xva {t:TypeId} {x y:Operand}:xS (.store t x y)=false:=id rfl
theorem WY {x:Operand}:xS (.nilCheck x)=false:=id rfl
theorem xwa {b:BinOp} {t u:TypeId} {x y:Operand}:xS (.binOp b t x y u)=false:=id rfl
theorem v0a {b:UnOp} {t:TypeId} {x:Operand}:xS (.unOp b t x)=false:=id rfl
theorem zua {t u:TypeId} {x:Operand}:xS (.convert t u x)=false:=id rfl
theorem WZ {f:Fn} {aZ a:Array Operand}:xS (.makeFunc f aZ a)=false:=id rfl
theorem VF {t:TypeId} {x:Operand} {n:Nat}:xS (.fieldAddr t x n)=false:=id rfl
theorem xxa {t:TypeId} {x:Operand} {n:Nat}:xS (.field t x n)=false:=id rfl
theorem VG {t:TypeId} {x y:Operand}:xS (.indexAddr t x y)=false:=id rfl
theorem xya {t:TypeId} {x y:Operand}:xS (.index t x y)=false:=id rfl
theorem xza {t:TypeId} {x:Operand} {l m k:Option Operand}:xS (.slice t x l m k)=false:=id rfl
theorem qFa {t:TypeId} {x y z:Operand}:xS (.insert t x y z)=false:=id rfl
theorem qGa {t:TypeId} {x y:Operand} {o:Bool}:xS (.lookup t x y o)=false:=id rfl
theorem zva {x:Operand} {n:Nat}:xS (.extract x n)=false:=id rfl
theorem v1a {c:Call}:xS (.call c)=false:=id rfl
theorem Kha {t:TypeId} {x y:Operand}:zY (.makeSlice t x y)=none:=id rfl
theorem Kia {t:TypeId} {r:Option Operand}:zY (.makeMap t r)=none:=id rfl
theorem v2a {t:TypeId} {x:Operand} {n:Nat}:zY (.field t x n)=none:=id rfl
theorem v3a {t:TypeId} {x y:Operand}:zY (.index t x y)=none:=id rfl
theorem v4a {t:TypeId} {x:Operand} {l m k:Option Operand}:zY (.slice t x l m k)=none:=id rfl
theorem xAa {t:TypeId} {x y z:Operand}:zY (.insert t x y z)=none:=id rfl
theorem xBa {t:TypeId} {x y:Operand} {o:Bool}:zY (.lookup t x y o)=none:=id rfl
end
theorem zj {c:Code} (a:okC N c=true) (I:Nat->Env->List Ob->Prop) (n:Nat) (h0:I n T h)
  (round:∀n T h,I n T h->wpC P N B c (vO (λb h'=>∃n',n'<n/\I n' b h') Q) T h): @yk P N B ⟨(.loop c,Q)⟩ T h:=
 qoa I n h0 λn T h k=>zL c a (round n T h k)
def Kja (P:Program) (N:Nat) (B:Bs) (n:Nat) [x:Held (Code × jv)] (T:Env) (h:List Ob):Prop:=
 ∀(φ:Nat->Ob),Upto φ h.length->∀(w:World) (g:Gh) (a:Act),Rel N B w g (fill φ h) a T->Code.rounds P x.it.1 (λe c w'=>∃b h',x.it.2 e b h'/\Aft N B φ w g h b h' c w') n a w
theorem Kv {c:Code} {Q Q':Exit->Act->World->Prop} (b:∀e a w,Q e a w->Q' e a w):∀(n:Nat) {a:Act} {w:World},Code.rounds P c Q n a w->Code.rounds P c Q' n a w
 | 0,_,_,k=>k
 | n+1,a,w,k=>by
   rw[rounds_succ] at k⊢
   refine wp_mono k λe d w' q=>?_
   cases e<;>first
    | exact Kv b n q
    | exact b _ _ _ q
theorem vr {c:Code} (n:Nat) (k: @Kja P N B n ⟨(c,Q)⟩ T h): @yk P N B ⟨(.loop c,Q)⟩ T h:=λφ b w g a r=>wp_loop_rounds n (k φ b w g a r)
theorem jf {c:Code} {n:Nat} (d:okC N c=true) (k:wpC P N B c (vO (λb h'=> @Kja P N B n ⟨(c,Q)⟩ b h') Q) T h): @Kja P N B (n+1) ⟨(c,Q)⟩ T h:=λφ j w g a r=>by
 rw[rounds_succ]
 refine wp_mono (zL c d k φ j w g a r) λe u w' ⟨b,h',i,f⟩=>?_
 cases e with
 | normal=>
   have s:=f.len
   obtain ⟨g',m,q,v⟩:=f
   exact Kv (λ_ _ _ ⟨p,o,l,t⟩=>⟨p,o,l,t.trans m v⟩) n (i φ (j.mono s) w' g' u q)
 | _=>exact ⟨b,h',i,f⟩
theorem zf {f:FuncId} (fn:Func) {c:Code} {aZ:List AV} {R:AV->List Ob->Prop} (rs:List ResultVar) (N:Nat) (d:P.funcs[f]? =some fn) (j:fn.body=some c) (e:fn.ntmps=N) (b:fn.results.toList=rs) (g:aZ.length.ble N=true) (a:Vm P f=true) (i:okC N c=true) (hex:∃r h',R r h'/\ResK h h')
  (k:∀B,wpC P N B c (vGa P rs h R) (nth aZ) h):ACalls P f aZ h R:=jm d j e b (Nat.le_of_ble_eq_true g) a hex λB=>zL c i (k B)
end
theorem XQa {x:Value}:AV.one (.v x)=x.oneCell':=id rfl
theorem Kka {e:Nat} {xs:List (List AV)}:AV.one (.sl e xs)=true:=id rfl
theorem Kla {i s:Nat}:AV.one (.tl i s)=true:=id rfl
theorem Jba {i s:Nat}:AV.one (.ptr i s)=true:=id rfl
theorem Kma {a:AV} {e i k:Nat}:AV.one (.ep a e i k)=true:=id rfl
theorem Kna:AV.one .em=true:=id rfl
theorem Koa {a:AV} {e i n:Nat}:AV.one (.vw a e i n)=true:=id rfl
theorem yZa:AV.cells .em=some [.em]:=id rfl
theorem y0a {a:AV} {e i n:Nat}:AV.cells (.vw a e i n)=some [.vw a e i n]:=id rfl
theorem Kpa {i:Nat}:AV.one (.mp i)=true:=id rfl
theorem y1a {i:Nat}:AV.cells (.mp i)=some [.mp i]:=id rfl
theorem Kqa {f:Fn} {a b:List AV}:AV.one (.fn f a b)=true:=id rfl
theorem y2a {cs:List AV}:AV.cells (.ag cs)=if cs.all AV.one then some cs else none:=id rfl
theorem kPa {x:Value}:AV.cells (.v x)=if x.oneCell' then some [.v x] else none:=id rfl
theorem y3a {e:Nat} {xs:List (List AV)}:AV.cells (.sl e xs)=some [.sl e xs]:=id rfl
theorem y4a {i s:Nat}:AV.cells (.tl i s)=some [.tl i s]:=id rfl
theorem v5a {i s:Nat}:AV.cells (.ptr i s)=some [.ptr i s]:=id rfl
theorem y5a {a:AV} {e i k:Nat}:AV.cells (.ep a e i k)=some [.ep a e i k]:=id rfl
theorem y6a {f:Fn} {a b:List AV}:AV.cells (.fn f a b)=some [.fn f a b]:=id rfl
def Ys (o:Option Ob) (st:Nat):Option (List (List AV)):=match o with
 | some (.row _ _ xs s)=>if s=st then some xs else none
 | _=>none
def eTl (o:Option Ob):Option Nat:=match o with
 | some (.row _ e _ _)=>some e
 | _=>none
section
variable {h h':List Ob}
theorem v6a {e:Nat} {xs:List (List AV)}:zq h (.sl e xs)=some xs:=id rfl
theorem v7a:zq h .em=some []:=id rfl
theorem xy {a:AV} {e i n:Nat}:zq h (.vw a e i n)=(zq h a).bind λxs=>if i+n<=xs.length/\(n=0∨eOf h a=some e) then some ((xs.drop i).take n) else none:=id rfl
theorem Ze {a:AV} {e i n:Nat}:eOf h (.vw a e i n)=(eOf h a).bind λb=>if b=e then some e else none:=id rfl
theorem xCa {k:Nat}:zq h (.v (.slice none 0 k))=some []:=id rfl
theorem zX {a st:Nat}:zq h (.tl a st)=Ys h[a]? st:=id rfl
theorem jV {ty e s st:Nat} {xs:List (List AV)}:Ys (some (.row ty e xs s)) st=if s=st then some xs else none:=id rfl
theorem Kra {e:Nat} {xs:List (List AV)}:eOf h (.sl e xs)=some e:=id rfl
theorem qE {a st:Nat}:eOf h (.tl a st)=eTl h[a]? :=id rfl
theorem km {ty e s:Nat} {xs:List (List AV)}:eTl (some (.row ty e xs s))=some e:=id rfl
theorem qHa {x:Value}:zq h (.v x)=zq h' (.v x):=by
 unfold zq
 cases x<;>first
  | rfl
  | (rename_i a n k;cases a<;>cases n<;>rfl)
structure SlOf (h:List Ob) (a:AV) (e:Nat) (xs:List (List AV)):Prop where
 rows:zq h a=some xs
 ee:xs≠[]->eOf h a=some e
theorem zwa {L:List Ob}:∀(a:AV) {e:Nat},eOf h a=some e->eOf (h++L) a=some e
 | .sl _ _,_,b=>b
 | .tl id st,e,b=>by
   simp only[eOf] at b⊢
   split at b
   ·rename_i ty j ys s d
    rw[zb d]
    exact b
   ·cases b
 | .vw a f i n,e,b=>by
   simp only[eOf] at b⊢
   cases c:eOf h a with
   | none=>rw[c] at b;cases b
   | some g=>rw[c] at b;rw[zwa a c];exact b
 | .v _,_,b | .em,_,b | .ptr _ _,_,b | .ep _ _ _ _,_,b | .mp _,_,b | .ag _,_,b | .tup _,_,b | .fn _ _ _,_,b | .bad,_,b=>by cases b
theorem VH {L:List Ob}:∀(a:AV) {xs:List (List AV)},zq h a=some xs->zq (h++L) a=some xs
 | .sl _ _,_,b=>b
 | .em,_,b=>b
 | .tl id st,xs,b=>by
   simp only[zq] at b⊢
   split at b
   ·rename_i ty g ys s f
    rw[zb f]
    exact b
   ·cases b
 | .vw a e i n,xs,b=>by
   simp only[zq] at b⊢
   cases c:zq h a with
   | none=>rw[c] at b;cases b
   | some ys=>
     rw[c] at b
     rw[VH a c]
     simp only[Option.bind_some] at b⊢
     split at b
     ·rename_i d
      rw[if_pos ⟨d.1,d.2.imp id (zwa a)⟩]
      exact b
     ·cases b
 | .v x,xs,b=>by rw[<-qHa (h:=h)];exact b
 | .ptr _ _,_,b | .ep _ _ _ _,_,b | .mp _,_,b | .ag _,_,b | .tup _,_,b | .fn _ _ _,_,b | .bad,_,b=>by cases b
theorem SlOf.app {h:List Ob} {a:AV} {e:Nat} {xs:List (List AV)} (s:SlOf h a e xs) (L:List Ob):SlOf (h++L) a e xs:=⟨VH a s.rows,λk=>zwa a (s.ee k)⟩
theorem xDa:∀ {a:AV} {xs:List (List AV)},zq h a=some xs->AV.one a=true
 | .sl _ _,_,_ | .em,_,_ | .tl _ _,_,_ | .vw _ _ _ _,_,_=>rfl
 | .v x,xs,b=>by
   unfold zq at b
   split at b<;>rename_i heq<;>first
    | (cases heq;done)
    | (injection heq with heq;subst heq;rfl)
    | cases b
 | .ptr _ _,_,b | .ep _ _ _ _,_,b | .mp _,_,b | .ag _,_,b | .tup _,_,b | .fn _ _ _,_,b | .bad,_,b=>by cases b
theorem SlOf.one {h:List Ob} {a:AV} {e:Nat} {xs:List (List AV)} (s:SlOf h a e xs):AV.one a=true:=xDa s.rows
theorem SlOf.cells {h:List Ob} {a:AV} {e:Nat} {xs:List (List AV)} (s:SlOf h a e xs):AV.cells a=some [a]:=by
 have c:=s.one
 obtain ⟨b,_⟩:=s
 cases a with
 | v x=>rw[kPa,if_pos (by simpa [XQa] using c)]
 | ag cs=>cases b
 | tup cs=>cases b
 | bad=>cases b
 | _=>rfl
theorem SlOf.at {h:List Ob} {a:AV} {e:Nat} {xs:List (List AV)} (s:SlOf h a e xs) {i:Nat} (b:i<xs.length):eOf h a=some e:=s.ee λc=>by rw[c] at b;simp at b
end
theorem wl0:IntKind.wrap .i64 0=0:=by decide
theorem wl1:IntKind.wrap .i64 1=1:=by decide
theorem wl2:IntKind.wrap .i64 2=2:=by decide
theorem wl3:IntKind.wrap .i64 3=3:=by decide
theorem wl4:IntKind.wrap .i64 4=4:=by decide
theorem wl5:IntKind.wrap .i64 5=5:=by decide
theorem wl6:IntKind.wrap .i64 6=6:=by decide
theorem wl7:IntKind.wrap .i64 7=7:=by decide
theorem wl8:IntKind.wrap .i64 8=8:=by decide
theorem wl9:IntKind.wrap .i64 9=9:=by decide
theorem YBa:IntKind.wrap .i64 10=10:=by decide
theorem YCa:IntKind.wrap .i64 11=11:=by decide
theorem YDa:IntKind.wrap .i64 12=12:=by decide
theorem YEa:IntKind.wrap .i64 13=13:=by decide
theorem YFa:IntKind.wrap .i64 14=14:=by decide
theorem YGa:IntKind.wrap .i64 15=15:=by decide
theorem YHa:IntKind.wrap .i64 16=16:=by decide
theorem YIa:IntKind.wrap .i64 17=17:=by decide
theorem YJa:IntKind.wrap .i64 18=18:=by decide
theorem YKa:IntKind.wrap .i64 19=19:=by decide
theorem YLa:IntKind.wrap .i64 20=20:=by decide
theorem wlm:IntKind.wrap .i64 (-1)= -1:=by decide
attribute [go_sem] wl0 wl1 wl2 wl3 wl4 wl5 wl6 wl7 wl8 wl9 YBa YCa YDa YEa YFa YGa YHa YIa YJa YKa YLa wlm
theorem y7a {x:Operand}:zY (.move x)=none:=id rfl
theorem xEa {x:Operand}:zY (.assign x)=none:=id rfl
theorem y8a {x:Operand} {y:Operand} {z:Operand}:zY (.pick x y z)=none:=id rfl
theorem v8a {t:TypeId}:zY (.alloc t)=none:=id rfl
theorem Jca {t:TypeId} {x:Operand}:zY (.box t x)=none:=id rfl
theorem v9a {t:TypeId} {a:Array (Nat × Operand)}:zY (.build t a)=none:=id rfl
theorem VI {t:TypeId} {n:Nat} {a:Array (Nat × Operand)}:zY (.buildSlice t n a)=none:=id rfl
theorem y9a {t:TypeId} {x:Operand}:zY (.load t x)=none:=id rfl
theorem waa {t:TypeId} {x:Operand} {y:Operand}:zY (.store t x y)=none:=id rfl
theorem zxa {x:Operand}:zY (.nilCheck x)=none:=id rfl
theorem wba {b:BinOp} {t:TypeId} {x:Operand} {y:Operand} {u:TypeId}:zY (.binOp b t x y u)=none:=id rfl
theorem Zaa {q:UnOp} {t:TypeId} {x:Operand}:zY (.unOp q t x)=none:=id rfl
theorem qIa {t:TypeId} {u:TypeId} {x:Operand}:zY (.convert t u x)=none:=id rfl
theorem zya {f:Fn} {aZ:Array Operand} {a:Array Operand}:zY (.makeFunc f aZ a)=none:=id rfl
theorem W0 {t:TypeId} {x:Operand} {n:Nat}:zY (.fieldAddr t x n)=none:=id rfl
theorem W3 {t:TypeId} {x:Operand} {y:Operand}:zY (.indexAddr t x y)=none:=id rfl
theorem qJa {x:Operand} {n:Nat}:zY (.extract x n)=none:=id rfl
theorem Zba {b:Builtin} {aZ:Array Operand} {a:Array TypeId}:zY (.call ⟨.builtin b,aZ,a⟩)=none:=id rfl
theorem xj {b:Bool} (e:(b==false)=false):b=true:=by cases b<;>simp_all
theorem xk {b:Bool} (e:(b==false)=true):b=false:=by cases b<;>simp_all
theorem jq {b:Bool} (e:(b==true)=false):b=false:=by cases b<;>simp_all
theorem jr {b:Bool} (e:(b==true)=true):b=true:=by cases b<;>simp_all
attribute [go_sem] y7a xEa y8a v8a Jca v9a VI y9a waa zxa wba Zaa qIa zya W0 W3 qJa Zba
attribute [go_sem] Q6a yUa vTa xra xsa Q7a Kea qDa yVa yWa zta WX vUa vVa vWa Kfa Kga xta yYa Q8a Q9a Jaa vXa qEa vYa xua vZa xva WY xwa v0a zua WZ VF xxa VG xya xza qFa qGa zva v1a Kha Kia v2a v3a v4a xAa xBa
attribute [go_sem] qra QVa QWa vJa yxa xea yya yza yAa QUa vIa QXa yBa yCa Vv vKa JZ xfa yDa vLa yEa QYa yFa yGa zla QZa Q0a yHa yIa Vw Wba Kca Kda XG Vr
 vI ev evl evs ofV nth cut lay vN Jh wB ZD z7a XQa Kna Koa Kpa yZa y0a y1a v7a xy Ze Kka Kla Jba Kma Kqa y2a kPa y3a y4a v5a y5a y6a part ZE wC v6a xCa zX jV Kra qE km j4a y8 yda kFa j2a j3a qba QG xA Ve Ji X7a zga xf xJ jP kGa qy ZL qca ZF xh xB jS jh qS yf z9a qaa jO vl
 zt yE KR vZ Jo QMa QTa yta yua yva ywa Value.oneCell'
attribute [go_sem] List.head?_cons eq_self List.length_set Option.getD_some Option.isSome_some if_true if_false Option.map_some Option.map_none Option.bind_some Option.bind_none List.map_cons List.map_nil List.length_cons List.length_nil List.length_append List.cons_append List.nil_append List.append_nil
 List.set_cons_zero List.set_cons_succ List.getElem?_cons_zero List.getElem?_cons_succ List.getElem?_nil List.all_cons List.all_nil Bool.and_true Bool.and_self Bool.true_and Bool.false_eq_true and_self and_true true_and ne_eq not_false_eq_true
 List.take_succ_cons List.take_zero List.drop_succ_cons List.drop_zero beq_self_eq_true decide_true decide_false Nat.zero_add Nat.add_zero Bool.not_true Bool.not_false List.getElem?_toArray Bool.true_beq Bool.false_beq Bool.false_and Bool.and_false Bool.true_or Bool.or_true Bool.false_or Bool.or_false
attribute [go_sem] Nat.reduceAdd Nat.reduceMul Nat.reduceSub Nat.reduceLT Nat.reduceLeDiff Nat.reduceEqDiff reduceIte reduceCtorEq Int.reduceEq Int.reduceLT Int.reduceLE Int.reduceBEq Int.reduceToNat Int.reduceAdd Int.cast_ofNat_Int
end Go.Proofs.YtfmldcilgbbimaaGreat.Ax
