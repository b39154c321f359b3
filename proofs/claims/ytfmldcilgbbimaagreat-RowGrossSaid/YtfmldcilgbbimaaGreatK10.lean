/-
  Joined.
-/
import Derived.Test.YtfmldcilgbbimaaGreatK09
import Derived.LoopN
set_option linter.unusedSimpArgs false
set_option linter.unusedVariables false
namespace Go.Proofs.YtfmldcilgbbimaaGreat.Ax
open Go Go.RowKit
def vZa (x:Option Oper) [k:Held (Oper->Prop)]:Prop:=match x with
 | some o=>k.it o
 | none=>False
def v0a (b s:Nat):Nat:=b+s
def VH (x:Option (Ob × (Nat->AV))) (h:List Ob) (id:Nat) [k:Held (AV->List Ob->Prop)]:Prop:=match x with
 | some (ob,mk)=>h[id]? =some .res/\k.it (mk id) (h.set id ob)
 | none=>False
def j6:Op->Bool
 | .alloc .. | .box .. | .buildSlice .. | .makeSlice .. | .makeMap .. =>true
 | _=>false
theorem WA (op:Op):j6 op=true↔cls op=3:=by
 cases op
 case call c=>
  obtain ⟨callee,args,a⟩:=c
  cases callee with
  | builtin b=>cases b<;>simp[j6,cls]
  | value x=>simp[j6,cls]
  | invoke r m=>simp[j6,cls]
 case binOp op t y z u=>simp only[j6,cls];split<;>simp
 all_goals simp[j6,cls]
def JF (P:Program) (ops:Array Oper) (b:Nat) (q:Ent) (o:Oper) (K:Env->List Ob->Prop) (T:Env) (h:List Ob):Prop:=
 if j6 o.op then @VH (qg P T o.op) h (v0a b q.2.1) ⟨λx h'=>K (zL T o.dst x) h'⟩ else VA P T h o (λT h=>qj P ops T h q.2.2/\K T h)
def Xo (P:Program) (ops:Array Oper) (b:Nat) (q:Ent) (K:Env->List Ob->Prop) (T:Env) (h:List Ob) (o:Oper):Prop:=match o.guard with
 | none=>JF P ops b q o K T h
 | some (j,a)=> @xK (kB ops j T) a ⟨JF P ops b q o K T h⟩ ⟨qj P ops (zL T o.dst (.v undef)) h q.2.2/\K (zL T o.dst (.v undef)) h⟩
def wpQ (P:Program) (ops:Array Oper) (b:Nat) (K:Env->List Ob->Prop):List Ent->Env->List Ob->Prop
 | [],T,h=>K T h
 | q::r,T,h=> @vZa ops[q.1]? ⟨Xo P ops b q (wpQ P ops b K r) T h⟩
section
variable {P:Program} {N:Nat} {B:Bs} {ops:Array Oper} {T:Env} {h:List Ob} {Q Q':jl}
theorem KS {o:Oper} {K K':Env->List Ob->Prop} (k:J9 P T h o K) (b:∀T h,K T h->K' T h):J9 P T h o K':=by
 unfold J9 at k⊢
 split
 ·rename_i l ar a
  rw[a] at k
  exact yC k λh' q=>b _ _ q
 ·rename_i a
  rw[a] at k
  exact y8 k b
theorem qja {K:Env->List Ob->Prop}:∀(l:List Oper) {T:Env} {h:List Ob},wpR P ops K l T h->wpA P ops K l T h
 | [],_,_,k=>k
 | o::r,T,h,k=>by
   have a:∀T h,wpR P ops K r T h->wpA P ops K r T h:=λT h=>qja r
   unfold wpR at k
   unfold wpA
   cases f:o.guard with
   | none=>simp only[f] at k ⊢;exact KS (xSa k) a
   | some q=>
     obtain ⟨j,g⟩:=q
     simp only[f,kB] at k⊢
     cases i:(ops[j]?).bind (·.dst) with
     | none=>simp only[i,xK] at k
     | some d=>
       simp only[i] at k⊢
       unfold xK at k
       split at k
       ·rename_i b c
        rw[c]
        refine ⟨λe=>KS (xSa (k.1 (by simp[e]))) a,λe=>a _ _ (k.2 (by simp[e]))⟩
       ·rename_i vs c
        rw[c]
        exact a _ _ k
       ·exact k.elim
theorem qr:∀(c:Code),okC N c=true->∀ {Q:jl} {T:Env} {h:List Ob},wpC P N B c Q T h->AWp P N B c Q T h:=by
 intro c
 induction c with
 | skip=>intro _ Q T h k;exact xqa k
 | label l=>intro _ Q T h k;exact qZa k
 | seq a b i j=>
   intro g Q T h k
   simp only[okC,Bool.and_eq_true] at g
   refine JO ((i g.1 k).mono λe T h q=>?_)
   cases e<;>first
    | exact j g.2 q
    | exact q
 | region id ops d=>
   intro g Q T h k
   cases d with
   | false=>exact YP g (qja _ k)
   | true=>exact k
 | cond x a b i j=>
   intro g Q T h k
   simp only[okC,Bool.and_eq_true] at g
   unfold wpC Xd at k
   split at k
   ·rename_i t n
    exact xsa n (λe=>i g.1 (k.1 e)) (λe=>j g.2 (k.2 e))
   ·exact k.elim
 | block id c m=>intro g Q T h k;exact q0a (m g k)
 | loop c m=>intro _ Q T h k;exact k
 | exit id=>intro _ Q T h k;exact xra k
 | ret=>intro _ Q T h k;exact vGa k
 | rangeFunc f p a b _ _=>intro _ Q T h k;exact k
 | scope b _=>intro _ Q T h k;exact k
 | goto l=>intro _ Q T h k;exact k
 | refuse w=>intro _ Q T h k;exact k
theorem x4a {b:Nat} {K:Env->List Ob->Prop}:∀(l:List Ent) {T:Env} {h:List Ob},wpQ P ops b K l T h->wpE P ops b K l T h
 | [],_,_,k=>k
 | q::r,T,h,k=>by
   have f:∀T h,wpQ P ops b K r T h->wpE P ops b K r T h:=λT h=>x4a r
   unfold wpQ vZa at k
   unfold wpE
   split at k
   ·rename_i o u
    rw[u]
    simp only
    have k:Xo P ops b q (wpQ P ops b K r) T h o:=k
    by_cases n:cls o.op=3
    ·have s:=(WA o.op).2 n
     have a:JF P ops b q o (wpQ P ops b K r) T h->yD P (b+q.2.1) o (wpE P ops b K r) T h:=λk=>by
      unfold JF at k
      rw[if_pos s] at k
      unfold VH at k
      unfold yD
      split at k
      ·rename_i ob mk t;rw[t];exact ⟨k.1,f _ _ k.2⟩
      ·exact k.elim
     rw[xf n]
     unfold Xh jt
     unfold Xo at k
     cases g:o.guard with
     | none=>simp only[g] at k ⊢;exact a k
     | some p=>
       obtain ⟨j,i⟩:=p
       simp only[g,kB] at k⊢
       cases m:(ops[j]?).bind (·.dst) with
       | none=>simp only[m,xK] at k
       | some d=>
         simp only[m] at k⊢
         unfold xK at k
         split at k
         ·rename_i b c
          rw[c]
          exact ⟨λe=>a (k.1 (by simp[e])),λe=>f _ _ (k.2 (by simp[e])).2⟩
         ·rename_i vs c
          rw[c]
          exact f _ _ k.2
         ·exact k.elim
    ·have s:¬ j6 o.op=true:=λh=>n ((WA o.op).1 h)
     have a:JF P ops b q o (wpQ P ops b K r) T h->xS P T h o (λT h=>qj P ops T h q.2.2/\wpE P ops b K r T h):=λk=>by
      unfold JF at k
      rw[if_neg s] at k
      exact y8 (YV k) λT h ⟨k1,k2⟩=>⟨k1,f _ _ k2⟩
     rw[xL n]
     unfold jU jt xTa
     unfold Xo at k
     cases g:o.guard with
     | none=>simp only[g] at k ⊢;exact a k
     | some p=>
       obtain ⟨j,i⟩:=p
       simp only[g,kB] at k⊢
       cases m:(ops[j]?).bind (·.dst) with
       | none=>simp only[m,xK] at k
       | some d=>
         simp only[m] at k⊢
         unfold xK at k
         split at k
         ·rename_i b c
          rw[c]
          exact ⟨λe=>a (k.1 (by simp[e])),λe=>let q:=k.2 (by simp[e]);⟨q.1,f _ _ q.2⟩⟩
         ·rename_i vs c
          rw[c]
          exact ⟨k.1,f _ _ k.2⟩
         ·exact k.elim
   ·exact k.elim
theorem zp {id:Nat} (d:P.follows .mixedOrders=true) (L:List Ob) (k:Nat) (a:List Ent) (c:L=List.replicate k .res) (e:ops.toList.all (kY N)=true) (b:Xi ops k a=true) (q:wpQ P ops h.length (Q .normal) a T (h++L)): @we P N B ⟨(.region id ops true,Q)⟩ T h:=
 x3a d k a e b (x4a _ (c▸q))
section
variable {b:Nat} {K:Env->List Ob->Prop} {q:Ent} {o:Oper} {dst:Option Tmp} {op:Op} {type:TypeId} {pos:String} {after:Array Edge}
theorem v1a:wpQ P ops b K [] T h=K T h:=id rfl
theorem x5a {r:List Ent}:wpQ P ops b K (q::r) T h= @vZa ops[q.1]? ⟨Xo P ops b q (wpQ P ops b K r) T h⟩:=id rfl
theorem jha {k:Oper->Prop}: @vZa (some o) ⟨k⟩=k o:=id rfl
theorem zaa:Xo P ops b q K T h ⟨dst,op,type,pos,after,none⟩=JF P ops b q ⟨dst,op,type,pos,after,none⟩ K T h:=id rfl
theorem zba {j:Nat} {a:Bool}:Xo P ops b q K T h ⟨dst,op,type,pos,after,some (j,a)⟩= @xK (kB ops j T) a ⟨JF P ops b q ⟨dst,op,type,pos,after,some (j,a)⟩ K T h⟩ ⟨qj P ops (zL T dst (.v undef)) h q.2.2/\K (zL T dst (.v undef)) h⟩:=id rfl
theorem v2a {g:Option (Nat × Bool)} (a:j6 op=true):JF P ops b q ⟨dst,op,type,pos,after,g⟩ K T h= @VH (qg P T op) h (v0a b q.2.1) ⟨λx h'=>K (zL T dst x) h'⟩:=by
 unfold JF;rw[if_pos a]
theorem yHa {g:Option (Nat × Bool)} (a:j6 op=false):JF P ops b q ⟨dst,op,type,pos,after,g⟩ K T h=VA P T h ⟨dst,op,type,pos,after,g⟩ (λT h=>qj P ops T h q.2.2/\K T h):=by
 unfold JF;rw[if_neg];rw[a];simp
theorem WB {ob:Ob} {mk:Nat->AV} {i:Nat} {k:AV->List Ob->Prop}: @VH (some (ob,mk)) h i ⟨k⟩=(h[i]? =some .res/\k (mk i) (h.set i ob)):=id rfl
theorem x6a {a c s:Nat}:v0a (a+c) s=a+(c+s):=Nat.add_assoc a c s
theorem x7a {α:Type} {l:List α} {s:Nat}:v0a l.length s=l.length+s:=id rfl
theorem VI:qj P ops T h []=True:=id rfl
theorem Kn {l:Nat} {r:List Nat}:qj P ops T h (l::r)=(kP P ops T h l/\qj P ops T h r):=id rfl
theorem jia {l:Nat}:kP P ops T h l=(match ops[l]? with
 | some o=>match o.dst with
   | some d=>ww P ops T h o=some (T d)
   | none=>False
 | none=>False):=id rfl
theorem jja:ww P ops T h ⟨dst,op,type,pos,after,none⟩=(zn P T h op).map (·.1):=id rfl
def x8a (t:AV) (a:Bool) (x:Option AV):Option AV:=match t with
 | .v (.bool b)=>if b=a then x else some (.v undef)
 | .v (.tuple _)=>some (.v undef)
 | _=>none
theorem jka {j:Nat} {a:Bool}:ww P ops T h ⟨dst,op,type,pos,after,some (j,a)⟩=x8a (kB ops j T) a ((zn P T h op).map (·.1)):=by
 unfold ww kB
 simp only
 cases b:(ops[j]?).bind (·.dst) with
 | none=>rfl
 | some d=>
   simp only
   generalize T d=t
   unfold x8a
   rfl
theorem yIa {b a:Bool} {x:Option AV}:x8a (.v (.bool b)) a x=if b=a then x else some (.v undef):=id rfl
theorem yJa {vs:Array Value} {a:Bool} {x:Option AV}:x8a (.v (.tuple vs)) a x=some (.v undef):=id rfl
theorem zca {t:TypeId}:j6 (.alloc t)=true:=id rfl
theorem x9a {t:TypeId} {x:Operand}:j6 (.box t x)=true:=id rfl
theorem v3a {t:TypeId} {n:Nat} {a:Array (Nat × Operand)}:j6 (.buildSlice t n a)=true:=id rfl
theorem v4a {t:TypeId} {x y:Operand}:j6 (.makeSlice t x y)=true:=id rfl
theorem v5a {t:TypeId} {r:Option Operand}:j6 (.makeMap t r)=true:=id rfl
theorem jla {x:Operand}:j6 (.move x)=false:=id rfl
theorem WC {x:Operand}:j6 (.assign x)=false:=id rfl
theorem jma {x y z:Operand}:j6 (.pick x y z)=false:=id rfl
theorem zda {t:TypeId} {a:Array (Nat × Operand)}:j6 (.build t a)=false:=id rfl
theorem jna {t:TypeId} {x:Operand}:j6 (.load t x)=false:=id rfl
theorem zea {t:TypeId} {x y:Operand}:j6 (.store t x y)=false:=id rfl
theorem Ko {x:Operand}:j6 (.nilCheck x)=false:=id rfl
theorem zfa {b:BinOp} {t u:TypeId} {x y:Operand}:j6 (.binOp b t x y u)=false:=id rfl
theorem joa {b:UnOp} {t:TypeId} {x:Operand}:j6 (.unOp b t x)=false:=id rfl
theorem VJ {t u:TypeId} {x:Operand}:j6 (.convert t u x)=false:=id rfl
theorem Kp {f:Fn} {aZ a:Array Operand}:j6 (.makeFunc f aZ a)=false:=id rfl
theorem Xp {t:TypeId} {x:Operand} {n:Nat}:j6 (.fieldAddr t x n)=false:=id rfl
theorem zga {t:TypeId} {x:Operand} {n:Nat}:j6 (.field t x n)=false:=id rfl
theorem Xq {t:TypeId} {x y:Operand}:j6 (.indexAddr t x y)=false:=id rfl
theorem zha {t:TypeId} {x y:Operand}:j6 (.index t x y)=false:=id rfl
theorem zia {t:TypeId} {x:Operand} {l m k:Option Operand}:j6 (.slice t x l m k)=false:=id rfl
theorem WD {t:TypeId} {x y z:Operand}:j6 (.insert t x y z)=false:=id rfl
theorem WE {t:TypeId} {x y:Operand} {o:Bool}:j6 (.lookup t x y o)=false:=id rfl
theorem VK {x:Operand} {n:Nat}:j6 (.extract x n)=false:=id rfl
theorem jpa {c:Call}:j6 (.call c)=false:=id rfl
theorem yKa {t:TypeId} {x y:Operand}:zG (.makeSlice t x y)=none:=id rfl
theorem yLa {t:TypeId} {r:Option Operand}:zG (.makeMap t r)=none:=id rfl
theorem jqa {t:TypeId} {x:Operand} {n:Nat}:zG (.field t x n)=none:=id rfl
theorem jra {t:TypeId} {x y:Operand}:zG (.index t x y)=none:=id rfl
theorem jsa {t:TypeId} {x:Operand} {l m k:Option Operand}:zG (.slice t x l m k)=none:=id rfl
theorem zja {t:TypeId} {x y z:Operand}:zG (.insert t x y z)=none:=id rfl
theorem zka {t:TypeId} {x y:Operand} {o:Bool}:zG (.lookup t x y o)=none:=id rfl
end
theorem zk {c:Code} (a:okC N c=true) (I:Nat->Env->List Ob->Prop) (n:Nat) (h0:I n T h)
  (round:∀n T h,I n T h->wpC P N B c (kH (λb h'=>∃n',n'<n/\I n' b h') Q) T h): @we P N B ⟨(.loop c,Q)⟩ T h:=
 xta I n h0 λn T h k=>qr c a (round n T h k)
def yMa (P:Program) (N:Nat) (B:Bs) (n:Nat) [x:Held (Code × jl)] (T:Env) (h:List Ob):Prop:=
 ∀(φ:Nat->Ob),Upto φ h.length->∀(w:World) (g:Gh) (a:Act),Rel N B w g (fill φ h) a T->Code.rounds P x.it.1 (λe c w'=>∃b h',x.it.2 e b h'/\Aft N B φ w g h b h' c w') n a w
theorem Jj {c:Code} {Q Q':Exit->Act->World->Prop} (b:∀e a w,Q e a w->Q' e a w):∀(n:Nat) {a:Act} {w:World},Code.rounds P c Q n a w->Code.rounds P c Q' n a w
 | 0,_,_,k=>k
 | n+1,a,w,k=>by
   rw[rounds_succ] at k⊢
   refine wp_mono k λe d w' q=>?_
   cases e<;>first
    | exact Jj b n q
    | exact b _ _ _ q
theorem kr {c:Code} (n:Nat) (k: @yMa P N B n ⟨(c,Q)⟩ T h): @we P N B ⟨(.loop c,Q)⟩ T h:=λφ b w g a r=>wp_loop_rounds n (k φ b w g a r)
theorem qL {c:Code} {n:Nat} (b:okC N c=true) (k:wpC P N B c (kH (λf h'=> @yMa P N B n ⟨(c,Q)⟩ f h') Q) T h): @yMa P N B (n+1) ⟨(c,Q)⟩ T h:=λφ i w g a r=>by
 rw[rounds_succ]
 refine wp_mono (qr c b k φ i w g a r) λe m w' ⟨f,h',j,d⟩=>?_
 cases e with
 | normal=>
   have s:=d.len
   obtain ⟨g',t,o,q⟩:=d
   exact Jj (λ_ _ _ ⟨u,l,v,p⟩=>⟨u,l,v,p.trans t q⟩) n (j φ (i.mono s) w' g' m o)
 | _=>exact ⟨f,h',j,d⟩
theorem zf {f:FuncId} (fn:Func) {c:Code} {aZ:List AV} {R:AV->List Ob->Prop} (rs:List ResultVar) (N:Nat) (i:P.funcs[f]? =some fn) (e:fn.body=some c) (g:fn.ntmps=N) (b:fn.results.toList=rs) (j:aZ.length.ble N=true) (a:J7 P f=true) (d:okC N c=true) (hex:∃r h',R r h'/\ResK h h')
  (k:∀B,wpC P N B c (q3a P rs h R) (nth aZ) h):ACalls P f aZ h R:=vm i e g b (Nat.le_of_ble_eq_true j) a hex λB=>qr c d (k B)
end
theorem yla {x:Value}:AV.one (.v x)=x.oneCell':=id rfl
theorem yNa {e:Nat} {xs:List (List AV)}:AV.one (.sl e xs)=true:=id rfl
theorem yOa {i s:Nat}:AV.one (.tl i s)=true:=id rfl
theorem v6a {i s:Nat}:AV.one (.ptr i s)=true:=id rfl
theorem yPa {a:AV} {e i k:Nat}:AV.one (.ep a e i k)=true:=id rfl
theorem yQa:AV.one .em=true:=id rfl
theorem yRa {a:AV} {e i n:Nat}:AV.one (.vw a e i n)=true:=id rfl
theorem kaa:AV.cells .em=some [.em]:=id rfl
theorem kba {a:AV} {e i n:Nat}:AV.cells (.vw a e i n)=some [.vw a e i n]:=id rfl
theorem ySa {i:Nat}:AV.one (.mp i)=true:=id rfl
theorem kca {i:Nat}:AV.cells (.mp i)=some [.mp i]:=id rfl
theorem yTa {f:Fn} {a b:List AV}:AV.one (.fn f a b)=true:=id rfl
theorem kda {a:List AV}:AV.cells (.ag a)=if a.all AV.one then some a else none:=id rfl
theorem qka {x:Value}:AV.cells (.v x)=if x.oneCell' then some [.v x] else none:=id rfl
theorem kea {e:Nat} {xs:List (List AV)}:AV.cells (.sl e xs)=some [.sl e xs]:=id rfl
theorem kfa {i s:Nat}:AV.cells (.tl i s)=some [.tl i s]:=id rfl
theorem jta {i s:Nat}:AV.cells (.ptr i s)=some [.ptr i s]:=id rfl
theorem kga {a:AV} {e i k:Nat}:AV.cells (.ep a e i k)=some [.ep a e i k]:=id rfl
theorem kha {f:Fn} {a b:List AV}:AV.cells (.fn f a b)=some [.fn f a b]:=id rfl
def KT (o:Option Ob) (st:Nat):Option (List (List AV)):=match o with
 | some (.row _ _ xs s)=>if s=st then some xs else none
 | _=>none
def eTl (o:Option Ob):Option Nat:=match o with
 | some (.row _ e _ _)=>some e
 | _=>none
section
variable {h h':List Ob}
theorem jua {e:Nat} {xs:List (List AV)}:zo h (.sl e xs)=some xs:=id rfl
theorem jva:zo h .em=some []:=id rfl
theorem xB {a:AV} {e i n:Nat}:zo h (.vw a e i n)=(zo h a).bind λxs=>if i+n<=xs.length/\(n=0∨eOf h a=some e) then some ((xs.drop i).take n) else none:=id rfl
theorem ZF {a:AV} {e i n:Nat}:eOf h (.vw a e i n)=(eOf h a).bind λb=>if b=e then some e else none:=id rfl
theorem zla {k:Nat}:zo h (.v (.slice none 0 k))=some []:=id rfl
theorem zO {a st:Nat}:zo h (.tl a st)=KT h[a]? st:=id rfl
theorem xC {ty e s st:Nat} {xs:List (List AV)}:KT (some (.row ty e xs s)) st=if s=st then some xs else none:=id rfl
theorem yUa {e:Nat} {xs:List (List AV)}:eOf h (.sl e xs)=some e:=id rfl
theorem qJ {a st:Nat}:eOf h (.tl a st)=eTl h[a]? :=id rfl
theorem vh {ty e s:Nat} {xs:List (List AV)}:eTl (some (.row ty e xs s))=some e:=id rfl
theorem WF {x:Value}:zo h (.v x)=zo h' (.v x):=by
 unfold zo
 cases x<;>first
  | rfl
  | (rename_i a n k;cases a<;>cases n<;>rfl)
structure SlOf (h:List Ob) (a:AV) (e:Nat) (xs:List (List AV)):Prop where
 rows:zo h a=some xs
 ee:xs≠[]->eOf h a=some e
theorem VL {L:List Ob}:∀(a:AV) {e:Nat},eOf h a=some e->eOf (h++L) a=some e
 | .sl _ _,_,b=>b
 | .tl id st,e,b=>by
   simp only[eOf] at b⊢
   split at b
   ·rename_i ty j ys s d
    rw[zb d]
    exact b
   ·cases b
 | .vw a f i n,e,b=>by
   simp only[eOf] at b⊢
   cases c:eOf h a with
   | none=>rw[c] at b;cases b
   | some g=>rw[c] at b;rw[VL a c];exact b
 | .v _,_,b | .em,_,b | .ptr _ _,_,b | .ep _ _ _ _,_,b | .mp _,_,b | .ag _,_,b | .tup _,_,b | .fn _ _ _,_,b | .bad,_,b=>by cases b
theorem Xr {L:List Ob}:∀(a:AV) {xs:List (List AV)},zo h a=some xs->zo (h++L) a=some xs
 | .sl _ _,_,b=>b
 | .em,_,b=>b
 | .tl id st,xs,b=>by
   simp only[zo] at b⊢
   split at b
   ·rename_i ty g ys s f
    rw[zb f]
    exact b
   ·cases b
 | .vw a e i n,xs,b=>by
   simp only[zo] at b⊢
   cases c:zo h a with
   | none=>rw[c] at b;cases b
   | some ys=>
     rw[c] at b
     rw[Xr a c]
     simp only[Option.bind_some] at b⊢
     split at b
     ·rename_i d
      rw[if_pos ⟨d.1,d.2.imp id (VL a)⟩]
      exact b
     ·cases b
 | .v x,xs,b=>by rw[<-WF (h:=h)];exact b
 | .ptr _ _,_,b | .ep _ _ _ _,_,b | .mp _,_,b | .ag _,_,b | .tup _,_,b | .fn _ _ _,_,b | .bad,_,b=>by cases b
theorem SlOf.app {h:List Ob} {a:AV} {e:Nat} {xs:List (List AV)} (s:SlOf h a e xs) (L:List Ob):SlOf (h++L) a e xs:=⟨Xr a s.rows,λk=>VL a (s.ee k)⟩
theorem zma:∀ {a:AV} {xs:List (List AV)},zo h a=some xs->AV.one a=true
 | .sl _ _,_,_ | .em,_,_ | .tl _ _,_,_ | .vw _ _ _ _,_,_=>rfl
 | .v x,xs,b=>by
   unfold zo at b
   split at b<;>rename_i heq<;>first
    | (cases heq;done)
    | (injection heq with heq;subst heq;rfl)
    | cases b
 | .ptr _ _,_,b | .ep _ _ _ _,_,b | .mp _,_,b | .ag _,_,b | .tup _,_,b | .fn _ _ _,_,b | .bad,_,b=>by cases b
theorem SlOf.one {h:List Ob} {a:AV} {e:Nat} {xs:List (List AV)} (s:SlOf h a e xs):AV.one a=true:=zma s.rows
theorem SlOf.cells {h:List Ob} {a:AV} {e:Nat} {xs:List (List AV)} (s:SlOf h a e xs):AV.cells a=some [a]:=by
 have c:=s.one
 obtain ⟨b,_⟩:=s
 cases a with
 | v x=>rw[qka,if_pos (by simpa [yla] using c)]
 | ag d=>cases b
 | tup d=>cases b
 | bad=>cases b
 | _=>rfl
theorem SlOf.at {h:List Ob} {a:AV} {e:Nat} {xs:List (List AV)} (s:SlOf h a e xs) {i:Nat} (b:i<xs.length):eOf h a=some e:=s.ee λc=>by rw[c] at b;simp at b
end
theorem wl0:IntKind.wrap .i64 0=0:=by decide
theorem wl1:IntKind.wrap .i64 1=1:=by decide
theorem wl2:IntKind.wrap .i64 2=2:=by decide
theorem wl3:IntKind.wrap .i64 3=3:=by decide
theorem wl4:IntKind.wrap .i64 4=4:=by decide
theorem wl5:IntKind.wrap .i64 5=5:=by decide
theorem wl6:IntKind.wrap .i64 6=6:=by decide
theorem wl7:IntKind.wrap .i64 7=7:=by decide
theorem wl8:IntKind.wrap .i64 8=8:=by decide
theorem wl9:IntKind.wrap .i64 9=9:=by decide
theorem Jna:IntKind.wrap .i64 10=10:=by decide
theorem Joa:IntKind.wrap .i64 11=11:=by decide
theorem Jpa:IntKind.wrap .i64 12=12:=by decide
theorem Jqa:IntKind.wrap .i64 13=13:=by decide
theorem Jra:IntKind.wrap .i64 14=14:=by decide
theorem Jsa:IntKind.wrap .i64 15=15:=by decide
theorem Jta:IntKind.wrap .i64 16=16:=by decide
theorem Jua:IntKind.wrap .i64 17=17:=by decide
theorem Jva:IntKind.wrap .i64 18=18:=by decide
theorem Jwa:IntKind.wrap .i64 19=19:=by decide
theorem Jxa:IntKind.wrap .i64 20=20:=by decide
theorem wlm:IntKind.wrap .i64 (-1)= -1:=by decide
attribute [go_sem] wl0 wl1 wl2 wl3 wl4 wl5 wl6 wl7 wl8 wl9 Jna Joa Jpa Jqa Jra Jsa Jta Jua Jva Jwa Jxa wlm
theorem kia {x:Operand}:zG (.move x)=none:=id rfl
theorem zna {x:Operand}:zG (.assign x)=none:=id rfl
theorem kja {x:Operand} {y:Operand} {z:Operand}:zG (.pick x y z)=none:=id rfl
theorem jwa {t:TypeId}:zG (.alloc t)=none:=id rfl
theorem v7a {t:TypeId} {x:Operand}:zG (.box t x)=none:=id rfl
theorem jxa {t:TypeId} {a:Array (Nat × Operand)}:zG (.build t a)=none:=id rfl
theorem Xs {t:TypeId} {n:Nat} {a:Array (Nat × Operand)}:zG (.buildSlice t n a)=none:=id rfl
theorem kka {t:TypeId} {x:Operand}:zG (.load t x)=none:=id rfl
theorem jya {t:TypeId} {x:Operand} {y:Operand}:zG (.store t x y)=none:=id rfl
theorem VM {x:Operand}:zG (.nilCheck x)=none:=id rfl
theorem jza {b:BinOp} {t:TypeId} {x:Operand} {y:Operand} {u:TypeId}:zG (.binOp b t x y u)=none:=id rfl
theorem kla {q:UnOp} {t:TypeId} {x:Operand}:zG (.unOp q t x)=none:=id rfl
theorem WG {t:TypeId} {u:TypeId} {x:Operand}:zG (.convert t u x)=none:=id rfl
theorem VN {f:Fn} {aZ:Array Operand} {a:Array Operand}:zG (.makeFunc f aZ a)=none:=id rfl
theorem Kq {t:TypeId} {x:Operand} {n:Nat}:zG (.fieldAddr t x n)=none:=id rfl
theorem Kr {t:TypeId} {x:Operand} {y:Operand}:zG (.indexAddr t x y)=none:=id rfl
theorem WH {x:Operand} {n:Nat}:zG (.extract x n)=none:=id rfl
theorem kma {b:Builtin} {aZ:Array Operand} {a:Array TypeId}:zG (.call ⟨.builtin b,aZ,a⟩)=none:=id rfl
theorem jD {b:Bool} (e:(b==false)=false):b=true:=by cases b<;>simp_all
theorem jE {b:Bool} (e:(b==false)=true):b=false:=by cases b<;>simp_all
theorem qU {b:Bool} (e:(b==true)=false):b=false:=by cases b<;>simp_all
theorem qV {b:Bool} (e:(b==true)=true):b=true:=by cases b<;>simp_all
attribute [go_sem] kia zna kja jwa v7a jxa Xs kka jya VM jza kla WG VN Kq Kr WH kma
attribute [go_sem] v1a x5a jha zaa zba v2a yHa WB x6a x7a VI Kn jia jja jka yIa yJa zca x9a v3a v4a v5a jla WC jma zda jna zea Ko zfa joa VJ Kp Xp zga Xq zha zia WD WE VK jpa yKa yLa jqa jra jsa zja zka
attribute [go_sem] xJa vQa vRa q7a xFa YT xGa xHa xIa vPa q6a vSa xKa xLa Xf q8a Qc YU xMa q9a xNa vTa xOa xPa VB vUa vVa xQa xRa Xg Qha yFa yGa q5a YR
 kB ev evl evs ofV nth cut lay kG Zx vr yl V9 yla yQa yRa ySa kaa kba kca jva xB ZF yNa yOa v6a yPa yTa kda qka kea kfa jta kga kha part ym vt jua zla zO xC yUa qJ vh YI wL xja z8a YG YH Wc yY yB JZ Zy yAa Vv jA jT jp z9a qg yv Wd yn jB jP js qM qA vY Wa Wb jo xZ
 zn wu JC kO ZD vHa vOa xBa xCa xDa xEa Value.oneCell'
attribute [go_sem] List.head?_cons eq_self List.length_set Option.getD_some Option.isSome_some if_true if_false Option.map_some Option.map_none Option.bind_some Option.bind_none List.map_cons List.map_nil List.length_cons List.length_nil List.length_append List.cons_append List.nil_append List.append_nil
 List.set_cons_zero List.set_cons_succ List.getElem?_cons_zero List.getElem?_cons_succ List.getElem?_nil List.all_cons List.all_nil Bool.and_true Bool.and_self Bool.true_and Bool.false_eq_true and_self and_true true_and ne_eq not_false_eq_true
 List.take_succ_cons List.take_zero List.drop_succ_cons List.drop_zero beq_self_eq_true decide_true decide_false Nat.zero_add Nat.add_zero Bool.not_true Bool.not_false List.getElem?_toArray Bool.true_beq Bool.false_beq Bool.false_and Bool.and_false Bool.true_or Bool.or_true Bool.false_or Bool.or_false
attribute [go_sem] Nat.reduceAdd Nat.reduceMul Nat.reduceSub Nat.reduceLT Nat.reduceLeDiff Nat.reduceEqDiff reduceIte reduceCtorEq Int.reduceEq Int.reduceLT Int.reduceLE Int.reduceBEq Int.reduceToNat Int.reduceAdd Int.cast_ofNat_Int
end Go.Proofs.YtfmldcilgbbimaaGreat.Ax
