/-
  Joined.
-/
import Derived.Test.YtigdlmpjijhpaaaGreatK09
import Derived.LoopN
set_option linter.unusedSimpArgs false
set_option linter.unusedVariables false
namespace Go.Proofs.YtigdlmpjijhpaaaGreat.Ax
open Go Go.RowKit
def wka (x:Option Oper) [k:Held (Oper->Prop)]:Prop:=match x with
 | some o=>k.it o
 | none=>False
def wla (b s:Nat):Nat:=b+s
def VP (x:Option (Ob × (Nat->AV))) (h:List Ob) (id:Nat) [k:Held (AV->List Ob->Prop)]:Prop:=match x with
 | some (ob,mk)=>h[id]? =some .res/\k.it (mk id) (h.set id ob)
 | none=>False
def xc:Op->Bool
 | .alloc .. | .box .. | .buildSlice .. | .makeSlice .. | .makeMap .. =>true
 | _=>false
theorem WK (op:Op):xc op=true↔cls op=3:=by
 cases op
 case call c=>
  obtain ⟨callee,args,a⟩:=c
  cases callee with
  | builtin b=>cases b<;>simp[xc,cls]
  | value x=>simp[xc,cls]
  | invoke r m=>simp[xc,cls]
 case binOp op t y z u=>simp only[xc,cls];split<;>simp
 all_goals simp[xc,cls]
def JN (P:Program) (ops:Array Oper) (b:Nat) (q:Ent) (o:Oper) (K:Env->List Ob->Prop) (T:Env) (h:List Ob):Prop:=
 if xc o.op then @VP (qo P T o.op) h (wla b q.2.1) ⟨λx h'=>K (zN T o.dst x) h'⟩ else VI P T h o (λT h=>qq P ops T h q.2.2/\K T h)
def Xt (P:Program) (ops:Array Oper) (b:Nat) (q:Ent) (K:Env->List Ob->Prop) (T:Env) (h:List Ob) (o:Oper):Prop:=match o.guard with
 | none=>JN P ops b q o K T h
 | some (j,a)=> @xR (kI ops j T) a ⟨JN P ops b q o K T h⟩ ⟨qq P ops (zN T o.dst (.v undef)) h q.2.2/\K (zN T o.dst (.v undef)) h⟩
def wpQ (P:Program) (ops:Array Oper) (b:Nat) (K:Env->List Ob->Prop):List Ent->Env->List Ob->Prop
 | [],T,h=>K T h
 | q::r,T,h=> @wka ops[q.1]? ⟨Xt P ops b q (wpQ P ops b K r) T h⟩
section
variable {P:Program} {N:Nat} {B:Bs} {ops:Array Oper} {T:Env} {h:List Ob} {Q Q':jr}
theorem KY {o:Oper} {K K':Env->List Ob->Prop} (k:Xe P T h o K) (b:∀T h,K T h->K' T h):Xe P T h o K':=by
 unfold Xe at k⊢
 split
 ·rename_i l ar a
  rw[a] at k
  exact yI k λh' q=>b _ _ q
 ·rename_i a
  rw[a] at k
  exact Zg k b
theorem qCa {K:Env->List Ob->Prop}:∀(l:List Oper) {T:Env} {h:List Ob},wpR P ops K l T h->wpA P ops K l T h
 | [],_,_,k=>k
 | o::r,T,h,k=>by
   have a:∀T h,wpR P ops K r T h->wpA P ops K r T h:=λT h=>qCa r
   unfold wpR at k
   unfold wpA
   cases i:o.guard with
   | none=>simp only[i] at k ⊢;exact KY (kba k) a
   | some q=>
     obtain ⟨j,g⟩:=q
     simp only[i,kI] at k⊢
     cases f:(ops[j]?).bind (·.dst) with
     | none=>simp only[f,xR] at k
     | some d=>
       simp only[f] at k⊢
       unfold xR at k
       split at k
       ·rename_i b c
        rw[c]
        refine ⟨λe=>KY (kba (k.1 (by simp[e]))) a,λe=>a _ _ (k.2 (by simp[e]))⟩
       ·rename_i vs c
        rw[c]
        exact a _ _ k
       ·exact k.elim
theorem qv:∀(c:Code),okC N c=true->∀ {Q:jr} {T:Env} {h:List Ob},wpC P N B c Q T h->AWp P N B c Q T h:=by
 intro c
 induction c with
 | skip=>intro _ Q T h k;exact xJa k
 | label l=>intro _ Q T h k;exact jga k
 | seq a b j i=>
   intro g Q T h k
   simp only[okC,Bool.and_eq_true] at g
   refine JV ((j g.1 k).mono λe T h q=>?_)
   cases e<;>first
    | exact i g.2 q
    | exact q
 | region id ops d=>
   intro g Q T h k
   cases d with
   | false=>exact Y8 g (qCa _ k)
   | true=>exact k
 | cond x a b j i=>
   intro g Q T h k
   simp only[okC,Bool.and_eq_true] at g
   unfold wpC Xi at k
   split at k
   ·rename_i t n
    exact xLa n (λe=>j g.1 (k.1 e)) (λe=>i g.2 (k.2 e))
   ·exact k.elim
 | block id c m=>intro g Q T h k;exact jha (m g k)
 | loop c m=>intro _ Q T h k;exact k
 | exit id=>intro _ Q T h k;exact xKa k
 | ret=>intro _ Q T h k;exact v1a k
 | rangeFunc f p a b _ _=>intro _ Q T h k;exact k
 | scope b _=>intro _ Q T h k;exact k
 | goto l=>intro _ Q T h k;exact k
 | refuse w=>intro _ Q T h k;exact k
theorem kna {b:Nat} {K:Env->List Ob->Prop}:∀(l:List Ent) {T:Env} {h:List Ob},wpQ P ops b K l T h->wpE P ops b K l T h
 | [],_,_,k=>k
 | q::r,T,h,k=>by
   have f:∀T h,wpQ P ops b K r T h->wpE P ops b K r T h:=λT h=>kna r
   unfold wpQ wka at k
   unfold wpE
   split at k
   ·rename_i o u
    rw[u]
    simp only
    have k:Xt P ops b q (wpQ P ops b K r) T h o:=k
    by_cases n:cls o.op=3
    ·have s:=(WK o.op).2 n
     have a:JN P ops b q o (wpQ P ops b K r) T h->yJ P (b+q.2.1) o (wpE P ops b K r) T h:=λk=>by
      unfold JN at k
      rw[if_pos s] at k
      unfold VP at k
      unfold yJ
      split at k
      ·rename_i ob mk t;rw[t];exact ⟨k.1,f _ _ k.2⟩
      ·exact k.elim
     rw[xl n]
     unfold Xm jz
     unfold Xt at k
     cases m:o.guard with
     | none=>simp only[m] at k ⊢;exact a k
     | some p=>
       obtain ⟨j,i⟩:=p
       simp only[m,kI] at k⊢
       cases g:(ops[j]?).bind (·.dst) with
       | none=>simp only[g,xR] at k
       | some d=>
         simp only[g] at k⊢
         unfold xR at k
         split at k
         ·rename_i b c
          rw[c]
          exact ⟨λe=>a (k.1 (by simp[e])),λe=>f _ _ (k.2 (by simp[e])).2⟩
         ·rename_i vs c
          rw[c]
          exact f _ _ k.2
         ·exact k.elim
    ·have s:¬ xc o.op=true:=λh=>n ((WK o.op).1 h)
     have a:JN P ops b q o (wpQ P ops b K r) T h->xX P T h o (λT h=>qq P ops T h q.2.2/\wpE P ops b K r T h):=λk=>by
      unfold JN at k
      rw[if_neg s] at k
      exact Zg (zea k) λT h ⟨k1,k2⟩=>⟨k1,f _ _ k2⟩
     rw[xS n]
     unfold j5 jz kca
     unfold Xt at k
     cases m:o.guard with
     | none=>simp only[m] at k ⊢;exact a k
     | some p=>
       obtain ⟨j,i⟩:=p
       simp only[m,kI] at k⊢
       cases g:(ops[j]?).bind (·.dst) with
       | none=>simp only[g,xR] at k
       | some d=>
         simp only[g] at k⊢
         unfold xR at k
         split at k
         ·rename_i b c
          rw[c]
          exact ⟨λe=>a (k.1 (by simp[e])),λe=>let q:=k.2 (by simp[e]);⟨q.1,f _ _ q.2⟩⟩
         ·rename_i vs c
          rw[c]
          exact ⟨k.1,f _ _ k.2⟩
         ·exact k.elim
   ·exact k.elim
theorem zp {id:Nat} (e:P.follows .mixedOrders=true) (L:List Ob) (k:Nat) (a:List Ent) (d:L=List.replicate k .res) (c:ops.toList.all (vf N)=true) (b:Xn ops k a=true) (q:wpQ P ops h.length (Q .normal) a T (h++L)): @wm P N B ⟨(.region id ops true,Q)⟩ T h:=
 kma e k a c b (kna _ (d▸q))
section
variable {b:Nat} {K:Env->List Ob->Prop} {q:Ent} {o:Oper} {dst:Option Tmp} {op:Op} {type:TypeId} {pos:String} {after:Array Edge}
theorem wma:wpQ P ops b K [] T h=K T h:=id rfl
theorem koa {r:List Ent}:wpQ P ops b K (q::r) T h= @wka ops[q.1]? ⟨Xt P ops b q (wpQ P ops b K r) T h⟩:=id rfl
theorem jya {k:Oper->Prop}: @wka (some o) ⟨k⟩=k o:=id rfl
theorem zqa:Xt P ops b q K T h ⟨dst,op,type,pos,after,none⟩=JN P ops b q ⟨dst,op,type,pos,after,none⟩ K T h:=id rfl
theorem zra {j:Nat} {a:Bool}:Xt P ops b q K T h ⟨dst,op,type,pos,after,some (j,a)⟩= @xR (kI ops j T) a ⟨JN P ops b q ⟨dst,op,type,pos,after,some (j,a)⟩ K T h⟩ ⟨qq P ops (zN T dst (.v undef)) h q.2.2/\K (zN T dst (.v undef)) h⟩:=id rfl
theorem wna {g:Option (Nat × Bool)} (a:xc op=true):JN P ops b q ⟨dst,op,type,pos,after,g⟩ K T h= @VP (qo P T op) h (wla b q.2.1) ⟨λx h'=>K (zN T dst x) h'⟩:=by
 unfold JN;rw[if_pos a]
theorem y6a {g:Option (Nat × Bool)} (a:xc op=false):JN P ops b q ⟨dst,op,type,pos,after,g⟩ K T h=VI P T h ⟨dst,op,type,pos,after,g⟩ (λT h=>qq P ops T h q.2.2/\K T h):=by
 unfold JN;rw[if_neg];rw[a];simp
theorem WL {ob:Ob} {mk:Nat->AV} {i:Nat} {k:AV->List Ob->Prop}: @VP (some (ob,mk)) h i ⟨k⟩=(h[i]? =some .res/\k (mk i) (h.set i ob)):=id rfl
theorem kpa {a c s:Nat}:wla (a+c) s=a+(c+s):=Nat.add_assoc a c s
theorem kqa {α:Type} {l:List α} {s:Nat}:wla l.length s=l.length+s:=id rfl
theorem VQ:qq P ops T h []=True:=id rfl
theorem Ku {l:Nat} {r:List Nat}:qq P ops T h (l::r)=(kY P ops T h l/\qq P ops T h r):=id rfl
theorem jza {l:Nat}:kY P ops T h l=(match ops[l]? with
 | some o=>match o.dst with
   | some d=>wC P ops T h o=some (T d)
   | none=>False
 | none=>False):=id rfl
theorem jAa:wC P ops T h ⟨dst,op,type,pos,after,none⟩=(zn P T h op).map (·.1):=id rfl
def kra (t:AV) (a:Bool) (x:Option AV):Option AV:=match t with
 | .v (.bool b)=>if b=a then x else some (.v undef)
 | .v (.tuple _)=>some (.v undef)
 | _=>none
theorem jBa {j:Nat} {a:Bool}:wC P ops T h ⟨dst,op,type,pos,after,some (j,a)⟩=kra (kI ops j T) a ((zn P T h op).map (·.1)):=by
 unfold wC kI
 simp only
 cases b:(ops[j]?).bind (·.dst) with
 | none=>rfl
 | some d=>
   simp only
   generalize T d=t
   unfold kra
   rfl
theorem y7a {b a:Bool} {x:Option AV}:kra (.v (.bool b)) a x=if b=a then x else some (.v undef):=id rfl
theorem y8a {vs:Array Value} {a:Bool} {x:Option AV}:kra (.v (.tuple vs)) a x=some (.v undef):=id rfl
theorem zsa {t:TypeId}:xc (.alloc t)=true:=id rfl
theorem ksa {t:TypeId} {x:Operand}:xc (.box t x)=true:=id rfl
theorem woa {t:TypeId} {n:Nat} {a:Array (Nat × Operand)}:xc (.buildSlice t n a)=true:=id rfl
theorem wpa {t:TypeId} {x y:Operand}:xc (.makeSlice t x y)=true:=id rfl
theorem wqa {t:TypeId} {r:Option Operand}:xc (.makeMap t r)=true:=id rfl
theorem jCa {x:Operand}:xc (.move x)=false:=id rfl
theorem WM {x:Operand}:xc (.assign x)=false:=id rfl
theorem jDa {x y z:Operand}:xc (.pick x y z)=false:=id rfl
theorem zta {t:TypeId} {a:Array (Nat × Operand)}:xc (.build t a)=false:=id rfl
theorem jEa {t:TypeId} {x:Operand}:xc (.load t x)=false:=id rfl
theorem zua {t:TypeId} {x y:Operand}:xc (.store t x y)=false:=id rfl
theorem Kv {x:Operand}:xc (.nilCheck x)=false:=id rfl
theorem zva {b:BinOp} {t u:TypeId} {x y:Operand}:xc (.binOp b t x y u)=false:=id rfl
theorem jFa {b:UnOp} {t:TypeId} {x:Operand}:xc (.unOp b t x)=false:=id rfl
theorem VR {t u:TypeId} {x:Operand}:xc (.convert t u x)=false:=id rfl
theorem Kw {f:Fn} {aZ a:Array Operand}:xc (.makeFunc f aZ a)=false:=id rfl
theorem Xu {t:TypeId} {x:Operand} {n:Nat}:xc (.fieldAddr t x n)=false:=id rfl
theorem zwa {t:TypeId} {x:Operand} {n:Nat}:xc (.field t x n)=false:=id rfl
theorem Xv {t:TypeId} {x y:Operand}:xc (.indexAddr t x y)=false:=id rfl
theorem zxa {t:TypeId} {x y:Operand}:xc (.index t x y)=false:=id rfl
theorem zya {t:TypeId} {x:Operand} {l m k:Option Operand}:xc (.slice t x l m k)=false:=id rfl
theorem WN {t:TypeId} {x y z:Operand}:xc (.insert t x y z)=false:=id rfl
theorem WO {t:TypeId} {x y:Operand} {o:Bool}:xc (.lookup t x y o)=false:=id rfl
theorem VS {x:Operand} {n:Nat}:xc (.extract x n)=false:=id rfl
theorem jGa {c:Call}:xc (.call c)=false:=id rfl
theorem y9a {t:TypeId} {x y:Operand}:zI (.makeSlice t x y)=none:=id rfl
theorem Zaa {t:TypeId} {r:Option Operand}:zI (.makeMap t r)=none:=id rfl
theorem jHa {t:TypeId} {x:Operand} {n:Nat}:zI (.field t x n)=none:=id rfl
theorem jIa {t:TypeId} {x y:Operand}:zI (.index t x y)=none:=id rfl
theorem jJa {t:TypeId} {x:Operand} {l m k:Option Operand}:zI (.slice t x l m k)=none:=id rfl
theorem zza {t:TypeId} {x y z:Operand}:zI (.insert t x y z)=none:=id rfl
theorem zAa {t:TypeId} {x y:Operand} {o:Bool}:zI (.lookup t x y o)=none:=id rfl
end
theorem zk {c:Code} (a:okC N c=true) (I:Nat->Env->List Ob->Prop) (n:Nat) (h0:I n T h)
  (round:∀n T h,I n T h->wpC P N B c (kO (λb h'=>∃n',n'<n/\I n' b h') Q) T h): @wm P N B ⟨(.loop c,Q)⟩ T h:=
 xMa I n h0 λn T h k=>qv c a (round n T h k)
def Zba (P:Program) (N:Nat) (B:Bs) (n:Nat) [x:Held (Code × jr)] (T:Env) (h:List Ob):Prop:=
 ∀(φ:Nat->Ob),Upto φ h.length->∀(w:World) (g:Gh) (a:Act),Rel N B w g (fill φ h) a T->Code.rounds P x.it.1 (λe c w'=>∃b h',x.it.2 e b h'/\Aft N B φ w g h b h' c w') n a w
theorem Jo {c:Code} {Q Q':Exit->Act->World->Prop} (b:∀e a w,Q e a w->Q' e a w):∀(n:Nat) {a:Act} {w:World},Code.rounds P c Q n a w->Code.rounds P c Q' n a w
 | 0,_,_,k=>k
 | n+1,a,w,k=>by
   rw[rounds_succ] at k⊢
   refine wp_mono k λe d w' q=>?_
   cases e<;>first
    | exact Jo b n q
    | exact b _ _ _ q
theorem ky {c:Code} (n:Nat) (k: @Zba P N B n ⟨(c,Q)⟩ T h): @wm P N B ⟨(.loop c,Q)⟩ T h:=λφ b w g a r=>wp_loop_rounds n (k φ b w g a r)
theorem qT {c:Code} {n:Nat} (d:okC N c=true) (k:wpC P N B c (kO (λf h'=> @Zba P N B n ⟨(c,Q)⟩ f h') Q) T h): @Zba P N B (n+1) ⟨(c,Q)⟩ T h:=λφ j w g a r=>by
 rw[rounds_succ]
 refine wp_mono (qv c d k φ j w g a r) λe o w' ⟨f,h',i,b⟩=>?_
 cases e with
 | normal=>
   have u:=b.len
   obtain ⟨g',v,l,s⟩:=b
   exact Jo (λ_ _ _ ⟨m,p,q,t⟩=>⟨m,p,q,t.trans v s⟩) n (i φ (j.mono u) w' g' o l)
 | _=>exact ⟨f,h',i,b⟩
theorem zf {f:FuncId} (fn:Func) {c:Code} {aZ:List AV} {R:AV->List Ob->Prop} (rs:List ResultVar) (N:Nat) (i:P.funcs[f]? =some fn) (e:fn.body=some c) (g:fn.ntmps=N) (a:fn.results.toList=rs) (j:aZ.length.ble N=true) (b:Xc P f=true) (d:okC N c=true) (hex:∃r h',R r h'/\ResK h h')
  (k:∀B,wpC P N B c (jka P rs h R) (nth aZ) h):ACalls P f aZ h R:=vu i e g a (Nat.le_of_ble_eq_true j) b hex λB=>qv c d (k B)
end
theorem yJa {x:Value}:AV.one (.v x)=x.oneCell':=id rfl
theorem Zca {e:Nat} {xs:List (List AV)}:AV.one (.sl e xs)=true:=id rfl
theorem Zda {i s:Nat}:AV.one (.tl i s)=true:=id rfl
theorem wra {i s:Nat}:AV.one (.ptr i s)=true:=id rfl
theorem Zea {a:AV} {e i k:Nat}:AV.one (.ep a e i k)=true:=id rfl
theorem Zfa:AV.one .em=true:=id rfl
theorem Zga {a:AV} {e i n:Nat}:AV.one (.vw a e i n)=true:=id rfl
theorem kta:AV.cells .em=some [.em]:=id rfl
theorem kua {a:AV} {e i n:Nat}:AV.cells (.vw a e i n)=some [.vw a e i n]:=id rfl
theorem Zha {i:Nat}:AV.one (.mp i)=true:=id rfl
theorem kva {i:Nat}:AV.cells (.mp i)=some [.mp i]:=id rfl
theorem Zia {f:Fn} {a b:List AV}:AV.one (.fn f a b)=true:=id rfl
theorem kwa {a:List AV}:AV.cells (.ag a)=if a.all AV.one then some a else none:=id rfl
theorem qDa {x:Value}:AV.cells (.v x)=if x.oneCell' then some [.v x] else none:=id rfl
theorem kxa {e:Nat} {xs:List (List AV)}:AV.cells (.sl e xs)=some [.sl e xs]:=id rfl
theorem kya {i s:Nat}:AV.cells (.tl i s)=some [.tl i s]:=id rfl
theorem jKa {i s:Nat}:AV.cells (.ptr i s)=some [.ptr i s]:=id rfl
theorem kza {a:AV} {e i k:Nat}:AV.cells (.ep a e i k)=some [.ep a e i k]:=id rfl
theorem kAa {f:Fn} {a b:List AV}:AV.cells (.fn f a b)=some [.fn f a b]:=id rfl
def KZ (o:Option Ob) (st:Nat):Option (List (List AV)):=match o with
 | some (.row _ _ xs s)=>if s=st then some xs else none
 | _=>none
def eTl (o:Option Ob):Option Nat:=match o with
 | some (.row _ e _ _)=>some e
 | _=>none
section
variable {h h':List Ob}
theorem jLa {e:Nat} {xs:List (List AV)}:zo h (.sl e xs)=some xs:=id rfl
theorem jMa:zo h .em=some []:=id rfl
theorem xJ {a:AV} {e i n:Nat}:zo h (.vw a e i n)=(zo h a).bind λxs=>if i+n<=xs.length/\(n=0∨eOf h a=some e) then some ((xs.drop i).take n) else none:=id rfl
theorem ZN {a:AV} {e i n:Nat}:eOf h (.vw a e i n)=(eOf h a).bind λb=>if b=e then some e else none:=id rfl
theorem zBa {k:Nat}:zo h (.v (.slice none 0 k))=some []:=id rfl
theorem zP {a st:Nat}:zo h (.tl a st)=KZ h[a]? st:=id rfl
theorem xK {ty e s st:Nat} {xs:List (List AV)}:KZ (some (.row ty e xs s)) st=if s=st then some xs else none:=id rfl
theorem Zja {e:Nat} {xs:List (List AV)}:eOf h (.sl e xs)=some e:=id rfl
theorem qR {a st:Nat}:eOf h (.tl a st)=eTl h[a]? :=id rfl
theorem vo {ty e s:Nat} {xs:List (List AV)}:eTl (some (.row ty e xs s))=some e:=id rfl
theorem WP {x:Value}:zo h (.v x)=zo h' (.v x):=by
 unfold zo
 cases x<;>first
  | rfl
  | (rename_i a n k;cases a<;>cases n<;>rfl)
structure SlOf (h:List Ob) (a:AV) (e:Nat) (xs:List (List AV)):Prop where
 rows:zo h a=some xs
 ee:xs≠[]->eOf h a=some e
theorem VT {L:List Ob}:∀(a:AV) {e:Nat},eOf h a=some e->eOf (h++L) a=some e
 | .sl _ _,_,b=>b
 | .tl id st,e,b=>by
   simp only[eOf] at b⊢
   split at b
   ·rename_i ty j ys s d
    rw[zb d]
    exact b
   ·cases b
 | .vw a f i n,e,b=>by
   simp only[eOf] at b⊢
   cases c:eOf h a with
   | none=>rw[c] at b;cases b
   | some g=>rw[c] at b;rw[VT a c];exact b
 | .v _,_,b | .em,_,b | .ptr _ _,_,b | .ep _ _ _ _,_,b | .mp _,_,b | .ag _,_,b | .tup _,_,b | .fn _ _ _,_,b | .bad,_,b=>by cases b
theorem Xw {L:List Ob}:∀(a:AV) {xs:List (List AV)},zo h a=some xs->zo (h++L) a=some xs
 | .sl _ _,_,b=>b
 | .em,_,b=>b
 | .tl id st,xs,b=>by
   simp only[zo] at b⊢
   split at b
   ·rename_i ty g ys s f
    rw[zb f]
    exact b
   ·cases b
 | .vw a e i n,xs,b=>by
   simp only[zo] at b⊢
   cases c:zo h a with
   | none=>rw[c] at b;cases b
   | some ys=>
     rw[c] at b
     rw[Xw a c]
     simp only[Option.bind_some] at b⊢
     split at b
     ·rename_i d
      rw[if_pos ⟨d.1,d.2.imp id (VT a)⟩]
      exact b
     ·cases b
 | .v x,xs,b=>by rw[<-WP (h:=h)];exact b
 | .ptr _ _,_,b | .ep _ _ _ _,_,b | .mp _,_,b | .ag _,_,b | .tup _,_,b | .fn _ _ _,_,b | .bad,_,b=>by cases b
theorem SlOf.app {h:List Ob} {a:AV} {e:Nat} {xs:List (List AV)} (s:SlOf h a e xs) (L:List Ob):SlOf (h++L) a e xs:=⟨Xw a s.rows,λk=>VT a (s.ee k)⟩
theorem zCa:∀ {a:AV} {xs:List (List AV)},zo h a=some xs->AV.one a=true
 | .sl _ _,_,_ | .em,_,_ | .tl _ _,_,_ | .vw _ _ _ _,_,_=>rfl
 | .v x,xs,b=>by
   unfold zo at b
   split at b<;>rename_i heq<;>first
    | (cases heq;done)
    | (injection heq with heq;subst heq;rfl)
    | cases b
 | .ptr _ _,_,b | .ep _ _ _ _,_,b | .mp _,_,b | .ag _,_,b | .tup _,_,b | .fn _ _ _,_,b | .bad,_,b=>by cases b
theorem SlOf.one {h:List Ob} {a:AV} {e:Nat} {xs:List (List AV)} (s:SlOf h a e xs):AV.one a=true:=zCa s.rows
theorem SlOf.cells {h:List Ob} {a:AV} {e:Nat} {xs:List (List AV)} (s:SlOf h a e xs):AV.cells a=some [a]:=by
 have c:=s.one
 obtain ⟨b,_⟩:=s
 cases a with
 | v x=>rw[qDa,if_pos (by simpa [yJa] using c)]
 | ag d=>cases b
 | tup d=>cases b
 | bad=>cases b
 | _=>rfl
theorem SlOf.at {h:List Ob} {a:AV} {e:Nat} {xs:List (List AV)} (s:SlOf h a e xs) {i:Nat} (b:i<xs.length):eOf h a=some e:=s.ee λc=>by rw[c] at b;simp at b
end
theorem wl0:IntKind.wrap .i64 0=0:=by decide
theorem wl1:IntKind.wrap .i64 1=1:=by decide
theorem wl2:IntKind.wrap .i64 2=2:=by decide
theorem wl3:IntKind.wrap .i64 3=3:=by decide
theorem wl4:IntKind.wrap .i64 4=4:=by decide
theorem wl5:IntKind.wrap .i64 5=5:=by decide
theorem wl6:IntKind.wrap .i64 6=6:=by decide
theorem wl7:IntKind.wrap .i64 7=7:=by decide
theorem wl8:IntKind.wrap .i64 8=8:=by decide
theorem wl9:IntKind.wrap .i64 9=9:=by decide
theorem JRa:IntKind.wrap .i64 10=10:=by decide
theorem JSa:IntKind.wrap .i64 11=11:=by decide
theorem JTa:IntKind.wrap .i64 12=12:=by decide
theorem JUa:IntKind.wrap .i64 13=13:=by decide
theorem JVa:IntKind.wrap .i64 14=14:=by decide
theorem JWa:IntKind.wrap .i64 15=15:=by decide
theorem JXa:IntKind.wrap .i64 16=16:=by decide
theorem JYa:IntKind.wrap .i64 17=17:=by decide
theorem JZa:IntKind.wrap .i64 18=18:=by decide
theorem J0a:IntKind.wrap .i64 19=19:=by decide
theorem J1a:IntKind.wrap .i64 20=20:=by decide
theorem wlm:IntKind.wrap .i64 (-1)= -1:=by decide
attribute [go_sem] wl0 wl1 wl2 wl3 wl4 wl5 wl6 wl7 wl8 wl9 JRa JSa JTa JUa JVa JWa JXa JYa JZa J0a J1a wlm
theorem kBa {x:Operand}:zI (.move x)=none:=id rfl
theorem zDa {x:Operand}:zI (.assign x)=none:=id rfl
theorem kCa {x:Operand} {y:Operand} {z:Operand}:zI (.pick x y z)=none:=id rfl
theorem jNa {t:TypeId}:zI (.alloc t)=none:=id rfl
theorem wsa {t:TypeId} {x:Operand}:zI (.box t x)=none:=id rfl
theorem jOa {t:TypeId} {a:Array (Nat × Operand)}:zI (.build t a)=none:=id rfl
theorem Xx {t:TypeId} {n:Nat} {a:Array (Nat × Operand)}:zI (.buildSlice t n a)=none:=id rfl
theorem kDa {t:TypeId} {x:Operand}:zI (.load t x)=none:=id rfl
theorem jPa {t:TypeId} {x:Operand} {y:Operand}:zI (.store t x y)=none:=id rfl
theorem VU {x:Operand}:zI (.nilCheck x)=none:=id rfl
theorem jQa {b:BinOp} {t:TypeId} {x:Operand} {y:Operand} {u:TypeId}:zI (.binOp b t x y u)=none:=id rfl
theorem kEa {q:UnOp} {t:TypeId} {x:Operand}:zI (.unOp q t x)=none:=id rfl
theorem WQ {t:TypeId} {u:TypeId} {x:Operand}:zI (.convert t u x)=none:=id rfl
theorem VV {f:Fn} {aZ:Array Operand} {a:Array Operand}:zI (.makeFunc f aZ a)=none:=id rfl
theorem Kx {t:TypeId} {x:Operand} {n:Nat}:zI (.fieldAddr t x n)=none:=id rfl
theorem Ky {t:TypeId} {x:Operand} {y:Operand}:zI (.indexAddr t x y)=none:=id rfl
theorem WR {x:Operand} {n:Nat}:zI (.extract x n)=none:=id rfl
theorem kFa {b:Builtin} {aZ:Array Operand} {a:Array TypeId}:zI (.call ⟨.builtin b,aZ,a⟩)=none:=id rfl
theorem jL {b:Bool} (e:(b==false)=false):b=true:=by cases b<;>simp_all
theorem jM {b:Bool} (e:(b==false)=true):b=false:=by cases b<;>simp_all
theorem jb {b:Bool} (e:(b==true)=false):b=false:=by cases b<;>simp_all
theorem jc {b:Bool} (e:(b==true)=true):b=true:=by cases b<;>simp_all
attribute [go_sem] kBa zDa kCa jNa wsa jOa Xx kDa jPa VU jQa kEa WQ VV Kx Ky WR kFa
attribute [go_sem] wma koa jya zqa zra wna y6a WL kpa kqa VQ Ku jza jAa jBa y7a y8a zsa ksa woa wpa wqa jCa WM jDa zta jEa zua Kv zva jFa VR Kw Xu zwa Xv zxa zya WN WO VS jGa y9a Zaa jHa jIa jJa zza zAa
attribute [go_sem] x2a wba wca joa xYa zca xZa x0a x1a waa jna wda x3a x4a Xk jpa Qj zda x5a jqa x6a wea x7a x8a VJ wfa wga x9a kaa Xl QJa y4a y5a jma zaa
 kI ev evl evs ofV nth cut lay kN ZF vC yv Wj yJa Zfa Zga Zha kta kua kva jMa xJ ZN Zca Zda wra Zea Zia kwa qDa kxa kya jKa kza kAa part yw vD jLa zBa zP xK Zja qR vo YY wS xCa qra YW YX Wm Zc yH J4 ZG yZa VD jI jZ ju qsa qo yB Wn yx jJ jV jy qV qE wi Wk Wl jt kp
 zn wA JJ kX ZL v2a v9a xUa xVa xWa xXa Value.oneCell'
attribute [go_sem] List.head?_cons eq_self List.length_set Option.getD_some Option.isSome_some if_true if_false Option.map_some Option.map_none Option.bind_some Option.bind_none List.map_cons List.map_nil List.length_cons List.length_nil List.length_append List.cons_append List.nil_append List.append_nil
 List.set_cons_zero List.set_cons_succ List.getElem?_cons_zero List.getElem?_cons_succ List.getElem?_nil List.all_cons List.all_nil Bool.and_true Bool.and_self Bool.true_and Bool.false_eq_true and_self and_true true_and ne_eq not_false_eq_true
 List.take_succ_cons List.take_zero List.drop_succ_cons List.drop_zero beq_self_eq_true decide_true decide_false Nat.zero_add Nat.add_zero Bool.not_true Bool.not_false List.getElem?_toArray Bool.true_beq Bool.false_beq Bool.false_and Bool.and_false Bool.true_or Bool.or_true Bool.false_or Bool.or_false
attribute [go_sem] Nat.reduceAdd Nat.reduceMul Nat.reduceSub Nat.reduceLT Nat.reduceLeDiff Nat.reduceEqDiff reduceIte reduceCtorEq Int.reduceEq Int.reduceLT Int.reduceLE Int.reduceBEq Int.reduceToNat Int.reduceAdd Int.cast_ofNat_Int
end Go.Proofs.YtigdlmpjijhpaaaGreat.Ax
