/-
  Joined.
-/
import Derived.Test.YtigdlmpjijhpaaaGreatK06
import Derived.Orders
set_option linter.unusedSimpArgs false
set_option linter.unusedVariables false
namespace Go.Proofs.YtigdlmpjijhpaaaGreat.Ax
open Go Go.RowKit
def cls:Op->Nat
 | .move _ | .assign _ | .pick .. | .build .. | .nilCheck _ | .unOp .. | .convert .. | .makeFunc .. | .fieldAddr .. | .extract .. | .field .. | .index .. =>0
 | .binOp _ _ _ y _=>if Zc y then 1 else 0
 | .load .. | .indexAddr .. | .slice .. | .lookup .. =>1
 | .call { callee:= .builtin .len, .. }=>1
 | .call { callee:= .builtin .max, .. } | .call { callee:= .builtin .min, .. }=>0
 | .alloc .. | .box .. | .buildSlice .. | .makeSlice .. | .makeMap .. =>3
 | _=>2
def vg (d:Nat):Operand->Bool
 | .tmp t=>t==d
 | _=>false
def jP (ops:Array Oper) (o:Oper) (d:Nat):Bool:=
 (o.op.operands.toList.any (vg d)) || (match o.guard with
  | some (j,_)=>(ops[j]?).bind (·.dst)==some d
  | none=>false)
def WB (ops:Array Oper) (x y:Oper):Bool:=
 (match x.dst with
  | some d=> !jP ops y d && y.dst != some d
  | none=>true) && (match y.dst with
  | some d=> !jP ops x d
  | none=>true)
def jz (ops:Array Oper) (o:Oper) (run:(Env->List Ob->Prop)->Env->List Ob->Prop) (K:Env->List Ob->Prop) (T:Env) (h:List Ob):Prop:=match o.guard with
 | none=>run K T h
 | some (j,a)=>match (ops[j]?).bind (·.dst) with
   | some d=>match T d with
     | .v (.bool b)=>(b=a->run K T h)/\(b≠a->K (zN T o.dst (.v undef)) h)
     | .v (.tuple _)=>K (zN T o.dst (.v undef)) h
     | _=>False
   | none=>False
def kca (P:Program) (o:Oper) (K:Env->List Ob->Prop) (T:Env) (h:List Ob):Prop:=xX P T h o K
def j5 (P:Program) (ops:Array Oper) (o:Oper) (K:Env->List Ob->Prop) (T:Env) (h:List Ob):Prop:=jz ops o (kca P o) K T h
def yJ (P:Program) (id:Nat) (o:Oper) (K:Env->List Ob->Prop) (T:Env) (h:List Ob):Prop:=match qo P T o.op with
 | some (ob,mk)=>h[id]? =some .res/\K (zN T o.dst (mk id)) (h.set id ob)
 | none=>False
def Xm (P:Program) (ops:Array Oper) (id:Nat) (o:Oper) (K:Env->List Ob->Prop) (T:Env) (h:List Ob):Prop:=jz ops o (yJ P id o) K T h
section
variable {P:Program} {ops:Array Oper} {T:Env} {h:List Ob}
theorem zX {d:Nat} {x:AV} {y:Operand} (a:vg d y=false):ev (upd T d x) y=ev T y:=by
 cases y with
 | tmp t=>simp only[vg,beq_eq_false_iff_ne,ne_eq] at a;simp[ev,upd,a]
 | _=>rfl
theorem Zf {d:Nat} {x:AV}:∀(l:List Operand),l.any (vg d)=false->evl (upd T d x) l=evl T l
 | [],_=>rfl
 | y::l,a=>by
   simp only[List.any_cons,Bool.or_eq_false_iff] at a
   simp only[evl,zX a.1,Zf l a.2]
theorem VK {d:Nat} {x:AV}:∀(l:List (Nat × Operand)),(l.map (·.2)).any (vg d)=false->evs (upd T d x) l=evs T l
 | [],_=>rfl
 | (i,y)::l,a=>by
   simp only[List.map_cons,List.any_cons,Bool.or_eq_false_iff] at a
   simp only[evs,zX a.1,VK l a.2]
theorem KR {d:Nat} {x:AV} {n:Int}:∀(y:Option Operand),y.toList.any (vg d)=false->wi (upd T d x) n y=wi T n y
 | none,_=>rfl
 | some y,a=>by
   have a:vg d y=false:=by simpa using a
   simp only[wi,zX a]
theorem KS {d:Nat} {x:AV} {c:Call} (b:c.operands.toList.any (vg d)=false):wA P (upd T d x) h c=wA P T h c/\vm (upd T d x) c=vm T c:=by
 obtain ⟨callee,args,e⟩:=c
 obtain ⟨args⟩:=args
 obtain ⟨e⟩:=e
 have a:args.any (vg d)=false:=by
  simp only[Call.operands] at b
  cases callee<;>simp only[Array.toList_append,List.any_append,Bool.or_eq_false_iff] at b<;>exact b.2
 have f:=Zf (T:=T) (x:=x) args a
 constructor
 ·unfold wA
  simp only
  split
  ·simp only[List.any_cons,Bool.or_eq_false_iff] at a;simp only[zX a.1]
  ·simp only[List.any_cons,Bool.or_eq_false_iff] at a;simp only[zX a.1,zX a.2.1]
  ·simp only[List.any_cons,Bool.or_eq_false_iff] at a;simp only[zX a.1]
  ·simp only[List.any_cons,Bool.or_eq_false_iff] at a;simp only[zX a.1,zX a.2.1]
  ·simp only[List.any_cons,Bool.or_eq_false_iff] at a;simp only[zX a.1,Zf _ a.2]
  ·simp only[List.any_cons,Bool.or_eq_false_iff] at a;simp only[zX a.1,Zf _ a.2]
  ·rfl
 ·unfold vm
  simp only
  split
  ·rename_i y
   simp only[Call.operands,Array.toList_append,List.any_append,Bool.or_eq_false_iff] at b
   have g:vg d y=false:=by simpa using b.1
   simp only[zX g,f]
  ·rfl
theorem ZM {d:Nat} {x:AV} (op:Op) (a:op.operands.toList.any (vg d)=false):qo P (upd T d x) op=qo P T op:=by
 cases op<;>simp only[Op.operands,List.any_cons,List.any_nil,Bool.or_false,Bool.or_eq_false_iff,Array.toList_append,List.any_append] at a<;>try (rfl;done)
 case box t y=>simp only[qo,zX a]
 case buildSlice t n ps=>simp only[qo,VK ps.toList a]
 case makeSlice t l c=>simp only[qo,zX a.1,zX a.2]
 case makeMap t r=>cases r<;>rfl
theorem ku {d:Nat} {x:AV} (op:Op) (e:op.operands.toList.any (vg d)=false):zn P (upd T d x) h op=zn P T h op:=by
 have g:=ZM (P:=P) (T:=T) (x:=x) op e
 have j:=e
 cases op<;>simp only[Op.operands,List.any_cons,List.any_nil,Bool.or_false,Bool.or_eq_false_iff,Array.toList_append,List.any_append] at e<;>try (rfl;done)
 case move y=>simp only[zn,zX e]
 case assign y=>simp only[zn,zX e]
 case pick a b c=>simp only[zn,zX e.1,zX e.2.1,zX e.2.2]
 case box t y=>simp only[zn,g]
 case build t ps=>simp only[zn,VK ps.toList e]
 case buildSlice t n ps=>simp only[zn,g]
 case makeSlice t l c=>simp only[zn,g]
 case makeMap t r=>simp only[zn,g]
 case load t y=>simp only[zn,zX e]
 case store t y z=>simp only[zn,zX e.1,zX e.2]
 case nilCheck y=>simp only[zn,zX e]
 case binOp op t y z _=>simp only[zn,zX e.1,zX e.2]
 case unOp op t y=>simp only[zn,zX e]
 case convert s t y=>simp only[zn,zX e]
 case makeFunc f p q=>simp only[zn,Zf p.toList e.1,Zf q.toList e.2]
 case fieldAddr t y i=>simp only[zn,zX e]
 case field t y i=>simp only[zn,zX e]
 case indexAddr t y i=>simp only[zn,zX e.1,zX e.2]
 case index t y i=>simp only[zn,zX e.1,zX e.2]
 case extract y i=>simp only[zn,zX e]
 case insert t m k v=>simp only[zn,zX e.1,zX e.2.1,zX e.2.2]
 case lookup t m k ok=>simp only[zn,zX e.1,zX e.2]
 case slice t y lo hi mx=>
  cases mx with
  | some m=>rfl
  | none=>
    have o:vg d y=false/\lo.toList.any (vg d)=false/\hi.toList.any (vg d)=false:=by
     simp only[Op.operands] at j
     cases lo<;>cases hi<;>simp_all
    obtain ⟨o,w,u⟩:=o
    simp only[zn,zX o,KR lo w,KR hi u]
 case call c=>exact (KS (h:=h) e).1
theorem kda {d e:Nat} (a:d≠e) (x y:AV):upd (upd T d x) e y=upd (upd T e y) d x:=by
 funext i
 simp only[upd]
 split
 ·rename_i b;subst b;rw[if_neg (λh=>a h.symm)]
 ·rfl
theorem Qk {d:Nat} {x y:AV} {o:Oper} (b:o.dst≠some d):zN (upd T d x) o.dst y=upd (zN T o.dst y) d x:=by
 cases a:o.dst with
 | none=>rfl
 | some e=>exact kda (λh=>b (by rw[a,h])) x y
theorem Zg {o:Oper} {K K':Env->List Ob->Prop} (k:xX P T h o K) (d:∀T h,K T h->K' T h):xX P T h o K':=by
 unfold xX at*
 split
 ·rename_i x h' a;rw[a] at k;exact d _ _ k
 ·rename_i a
  rw[a] at k
  clear a
  generalize o.op=op at k⊢
  cases op<;>first
   | exact k.elim
   | skip
  rename_i c
  simp only at k⊢
  cases b:vm T c with
  | none=>rw[b] at k;exact k.elim
  | some q=>
    rw[b] at k
    exact k.mono λ_ _=>d _ _
theorem yK {o:Oper} {run a:(Env->List Ob->Prop)->Env->List Ob->Prop} {K K':Env->List Ob->Prop} (k:jz ops o run K T h) (c:run K T h->a K' T h) (i:K (zN T o.dst (.v undef)) h->K' (zN T o.dst (.v undef)) h):jz ops o a K' T h:=by
 unfold jz at*
 cases g:o.guard with
 | none=>simp only[g] at k ⊢;exact c k
 | some q=>
   obtain ⟨j,f⟩:=q
   simp only[g] at k⊢
   cases b:(ops[j]?).bind (·.dst) with
   | none=>simp only[b] at k
   | some d=>
     simp only[b] at k⊢
     split at k
     ·exact ⟨λe=>c (k.1 e),λe=>i (k.2 e)⟩
     ·exact i k
     ·exact k
theorem VL {b:List Ob} {o:Oper} {run a:(Env->List Ob->Prop)->Env->List Ob->Prop} {K K':Env->List Ob->Prop} (k:jz ops o run K T h) (f:run K T h->a K' T b) (l:K (zN T o.dst (.v undef)) h->K' (zN T o.dst (.v undef)) b):jz ops o a K' T b:=by
 unfold jz at*
 cases i:o.guard with
 | none=>simp only[i] at k ⊢;exact f k
 | some q=>
   obtain ⟨j,g⟩:=q
   simp only[i] at k⊢
   cases c:(ops[j]?).bind (·.dst) with
   | none=>simp only[c] at k
   | some d=>
     simp only[c] at k⊢
     split at k
     ·exact ⟨λe=>f (k.1 e),λe=>l (k.2 e)⟩
     ·exact l k
     ·exact k
theorem jm {o:Oper} {K K':Env->List Ob->Prop} (k:j5 P ops o K T h) (a:∀T h,K T h->K' T h):j5 P ops o K' T h:=
 yK k (λk=>Zg k a) (a _ _)
theorem zfa {id:Nat} {o:Oper} {K K':Env->List Ob->Prop} (k:yJ P id o K T h) (b:∀T h,K T h->K' T h):yJ P id o K' T h:=by
 unfold yJ at*
 split
 ·rename_i ob mk a;rw[a] at k;exact ⟨k.1,b _ _ k.2⟩
 ·rename_i a;rw[a] at k;exact k
theorem kea {d:Nat} {x:AV} {o:Oper} {K:Env->List Ob->Prop} (a:o.op.operands.toList.any (vg d)=false) (b:o.dst≠some d):xX P (upd T d x) h o K=xX P T h o (λf g=>K (upd f d x) g):=by
 unfold xX
 rw[ku o.op a]
 split
 ·rw[Qk b]
 ·split
  ·rename_i c e
   rw[e] at a
   rw[(KS (P:=P) (h:=h) a).2]
   split
   ·simp only[Qk b]
   ·rfl
  ·rfl
theorem zga {d:Nat} {x:AV} {o:Oper} {run:(Env->List Ob->Prop)->Env->List Ob->Prop} {K:Env->List Ob->Prop} (a:jP ops o d=false) (k:o.dst≠some d) (g:run K (upd T d x) h=run (λb c=>K (upd b d x) c) T h):jz ops o run K (upd T d x) h=jz ops o run (λb c=>K (upd b d x) c) T h:=by
 unfold jP at a
 rw[Bool.or_eq_false_iff] at a
 unfold jz
 cases n:o.guard with
 | none=>simp only[];exact g
 | some q=>
   obtain ⟨j,i⟩:=q
   rw[n] at a
   simp only[]
   cases l:(ops[j]?).bind (·.dst) with
   | none=>rfl
   | some e=>
     have f:e≠d:=λh=>by
      have:=a.2
      simp[l,h] at this
     have m:upd T d x e=T e:=by simp[upd,f]
     simp only[m,g,Qk k]
theorem Zh {d:Nat} {x:AV} {o:Oper} {K:Env->List Ob->Prop} (a:jP ops o d=false) (b:o.dst≠some d):j5 P ops o K (upd T d x) h=j5 P ops o (λc e=>K (upd c d x) e) T h:=
 zga a b (kea (by unfold jP at a;rw[Bool.or_eq_false_iff] at a;exact a.1) b)
def wC (P:Program) (ops:Array Oper) (T:Env) (h:List Ob) (o:Oper):Option AV:=match o.guard with
 | none=>(zn P T h o.op).map (·.1)
 | some (j,a)=>match (ops[j]?).bind (·.dst) with
   | some d=>match T d with
     | .v (.bool b)=>if b=a then (zn P T h o.op).map (·.1) else some (.v undef)
     | .v (.tuple _)=>some (.v undef)
     | _=>none
   | none=>none
theorem zha {op:Op} (b:cls op<=1) {x:AV} {h':List Ob} (a:zn P T h op=some (x,h')):h'=h:=by
 cases op<;>simp only[cls] at b<;>try (omega;done)
 case call c=>
  obtain ⟨callee,args,d⟩:=c
  simp only[zn,wA] at a
  split at a
  ·split at a
   ·obtain ⟨_,_,_,e⟩:=ja a;exact e.symm
   ·cases a
  ·simp at b
  ·simp at b
  ·simp at b
  ·obtain ⟨_,_,_,e⟩:=ja a;exact e.symm
  ·obtain ⟨_,_,_,e⟩:=ja a;exact e.symm
  ·cases a
 case slice t y lo hi mx=>
  cases mx with
  | some m=>cases a
  | none=>
    simp only[zn] at a
    split at a
    ·simp only[Option.bind_eq_some_iff] at a
     obtain ⟨_,_,_,_,_,_,a⟩:=a
     split at a
     ·injection a with a;injection a with _ a;exact a.symm
     ·cases a
    ·cases a
 case build t ps=>
  simp only[zn] at a
  split at a
  ·split at a
   ·simp only[Option.bind_eq_some_iff] at a
    obtain ⟨_,_,a⟩:=a
    obtain ⟨_,_,_,e⟩:=ja a;exact e.symm
   ·cases a
  ·split at a
   ·simp only[Option.bind_eq_some_iff] at a
    obtain ⟨_,_,a⟩:=a
    obtain ⟨_,_,_,e⟩:=ja a;exact e.symm
   ·cases a
  ·cases a
 case fieldAddr t y i=>
  simp only[zn] at a
  split at a
  ·simp only[Option.bind_eq_some_iff] at a
   obtain ⟨_,_,a⟩:=a
   split at a
   ·split at a
    ·injection a with a;injection a with _ a;exact a.symm
    ·injection a with a;injection a with _ a;exact a.symm
    ·cases a
   ·cases a
  ·cases a
 case field t y i=>
  simp only[zn] at a
  split at a
  ·simp only[Option.bind_eq_some_iff] at a
   obtain ⟨_,_,a⟩:=a
   split at a
   ·obtain ⟨_,_,_,e⟩:=ja a;exact e.symm
   ·cases a
  ·cases a
 all_goals
  simp only[zn] at a
  (repeat' split at a)
 all_goals first
  | cases a;done
  | (injection a with a;injection a with _ a;exact a.symm)
  | (simp only[Option.map_eq_some_iff,Prod.mk.injEq] at a;obtain ⟨_,_,_,e⟩:=a;exact e.symm)
end
end Go.Proofs.YtigdlmpjijhpaaaGreat.Ax
