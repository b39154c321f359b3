/-
  Joined.
-/
import Derived.Test.YtfmldcilgbbimaaGreatK06
import Derived.Orders
set_option linter.unusedSimpArgs false
set_option linter.unusedVariables false
namespace Go.Proofs.YtfmldcilgbbimaaGreat.Ax
open Go Go.RowKit
def cls:Op->Nat
 | .move _ | .assign _ | .pick .. | .build .. | .nilCheck _ | .unOp .. | .convert .. | .makeFunc .. | .fieldAddr .. | .extract .. | .field .. | .index .. =>0
 | .binOp _ _ _ y _=>if yY y then 1 else 0
 | .load .. | .indexAddr .. | .slice .. | .lookup .. =>1
 | .call { callee:= .builtin .len, .. }=>1
 | .call { callee:= .builtin .max, .. } | .call { callee:= .builtin .min, .. }=>0
 | .alloc .. | .box .. | .buildSlice .. | .makeSlice .. | .makeMap .. =>3
 | _=>2
def kZ (d:Nat):Operand->Bool
 | .tmp t=>t==d
 | _=>false
def jH (ops:Array Oper) (o:Oper) (d:Nat):Bool:=
 (o.op.operands.toList.any (kZ d)) || (match o.guard with
  | some (j,_)=>(ops[j]?).bind (·.dst)==some d
  | none=>false)
def Wr (ops:Array Oper) (x y:Oper):Bool:=
 (match x.dst with
  | some d=> !jH ops y d && y.dst != some d
  | none=>true) && (match y.dst with
  | some d=> !jH ops x d
  | none=>true)
def jt (ops:Array Oper) (o:Oper) (run:(Env->List Ob->Prop)->Env->List Ob->Prop) (K:Env->List Ob->Prop) (T:Env) (h:List Ob):Prop:=match o.guard with
 | none=>run K T h
 | some (j,a)=>match (ops[j]?).bind (·.dst) with
   | some d=>match T d with
     | .v (.bool b)=>(b=a->run K T h)/\(b≠a->K (zL T o.dst (.v undef)) h)
     | .v (.tuple _)=>K (zL T o.dst (.v undef)) h
     | _=>False
   | none=>False
def xTa (P:Program) (o:Oper) (K:Env->List Ob->Prop) (T:Env) (h:List Ob):Prop:=xS P T h o K
def jU (P:Program) (ops:Array Oper) (o:Oper) (K:Env->List Ob->Prop) (T:Env) (h:List Ob):Prop:=jt ops o (xTa P o) K T h
def yD (P:Program) (id:Nat) (o:Oper) (K:Env->List Ob->Prop) (T:Env) (h:List Ob):Prop:=match qg P T o.op with
 | some (ob,mk)=>h[id]? =some .res/\K (zL T o.dst (mk id)) (h.set id ob)
 | none=>False
def Xh (P:Program) (ops:Array Oper) (id:Nat) (o:Oper) (K:Env->List Ob->Prop) (T:Env) (h:List Ob):Prop:=jt ops o (yD P id o) K T h
section
variable {P:Program} {ops:Array Oper} {T:Env} {h:List Ob}
theorem zU {d:Nat} {x:AV} {y:Operand} (a:kZ d y=false):ev (upd T d x) y=ev T y:=by
 cases y with
 | tmp t=>simp only[kZ,beq_eq_false_iff_ne,ne_eq] at a;simp[ev,upd,a]
 | _=>rfl
theorem y7 {d:Nat} {x:AV}:∀(l:List Operand),l.any (kZ d)=false->evl (upd T d x) l=evl T l
 | [],_=>rfl
 | y::l,a=>by
   simp only[List.any_cons,Bool.or_eq_false_iff] at a
   simp only[evl,zU a.1,y7 l a.2]
theorem VC {d:Nat} {x:AV}:∀(l:List (Nat × Operand)),(l.map (·.2)).any (kZ d)=false->evs (upd T d x) l=evs T l
 | [],_=>rfl
 | (i,y)::l,a=>by
   simp only[List.map_cons,List.any_cons,Bool.or_eq_false_iff] at a
   simp only[evs,zU a.1,VC l a.2]
theorem KJ {d:Nat} {x:AV} {n:Int}:∀(y:Option Operand),y.toList.any (kZ d)=false->vY (upd T d x) n y=vY T n y
 | none,_=>rfl
 | some y,a=>by
   have a:kZ d y=false:=by simpa using a
   simp only[vY,zU a]
theorem KL {d:Nat} {x:AV} {c:Call} (b:c.operands.toList.any (kZ d)=false):wu P (upd T d x) h c=wu P T h c/\vf (upd T d x) c=vf T c:=by
 obtain ⟨callee,args,e⟩:=c
 obtain ⟨args⟩:=args
 obtain ⟨e⟩:=e
 have a:args.any (kZ d)=false:=by
  simp only[Call.operands] at b
  cases callee<;>simp only[Array.toList_append,List.any_append,Bool.or_eq_false_iff] at b<;>exact b.2
 have f:=y7 (T:=T) (x:=x) args a
 constructor
 ·unfold wu
  simp only
  split
  ·simp only[List.any_cons,Bool.or_eq_false_iff] at a;simp only[zU a.1]
  ·simp only[List.any_cons,Bool.or_eq_false_iff] at a;simp only[zU a.1,zU a.2.1]
  ·simp only[List.any_cons,Bool.or_eq_false_iff] at a;simp only[zU a.1]
  ·simp only[List.any_cons,Bool.or_eq_false_iff] at a;simp only[zU a.1,zU a.2.1]
  ·simp only[List.any_cons,Bool.or_eq_false_iff] at a;simp only[zU a.1,y7 _ a.2]
  ·simp only[List.any_cons,Bool.or_eq_false_iff] at a;simp only[zU a.1,y7 _ a.2]
  ·rfl
 ·unfold vf
  simp only
  split
  ·rename_i y
   simp only[Call.operands,Array.toList_append,List.any_append,Bool.or_eq_false_iff] at b
   have g:kZ d y=false:=by simpa using b.1
   simp only[zU g,f]
  ·rfl
theorem ZE {d:Nat} {x:AV} (op:Op) (a:op.operands.toList.any (kZ d)=false):qg P (upd T d x) op=qg P T op:=by
 cases op<;>simp only[Op.operands,List.any_cons,List.any_nil,Bool.or_false,Bool.or_eq_false_iff,Array.toList_append,List.any_append] at a<;>try (rfl;done)
 case box t y=>simp only[qg,zU a]
 case buildSlice t n ps=>simp only[qg,VC ps.toList a]
 case makeSlice t l c=>simp only[qg,zU a.1,zU a.2]
 case makeMap t r=>cases r<;>rfl
theorem km {d:Nat} {x:AV} (op:Op) (e:op.operands.toList.any (kZ d)=false):zn P (upd T d x) h op=zn P T h op:=by
 have g:=ZE (P:=P) (T:=T) (x:=x) op e
 have j:=e
 cases op<;>simp only[Op.operands,List.any_cons,List.any_nil,Bool.or_false,Bool.or_eq_false_iff,Array.toList_append,List.any_append] at e<;>try (rfl;done)
 case move y=>simp only[zn,zU e]
 case assign y=>simp only[zn,zU e]
 case pick a b c=>simp only[zn,zU e.1,zU e.2.1,zU e.2.2]
 case box t y=>simp only[zn,g]
 case build t ps=>simp only[zn,VC ps.toList e]
 case buildSlice t n ps=>simp only[zn,g]
 case makeSlice t l c=>simp only[zn,g]
 case makeMap t r=>simp only[zn,g]
 case load t y=>simp only[zn,zU e]
 case store t y z=>simp only[zn,zU e.1,zU e.2]
 case nilCheck y=>simp only[zn,zU e]
 case binOp op t y z _=>simp only[zn,zU e.1,zU e.2]
 case unOp op t y=>simp only[zn,zU e]
 case convert s t y=>simp only[zn,zU e]
 case makeFunc f p q=>simp only[zn,y7 p.toList e.1,y7 q.toList e.2]
 case fieldAddr t y i=>simp only[zn,zU e]
 case field t y i=>simp only[zn,zU e]
 case indexAddr t y i=>simp only[zn,zU e.1,zU e.2]
 case index t y i=>simp only[zn,zU e.1,zU e.2]
 case extract y i=>simp only[zn,zU e]
 case insert t m k v=>simp only[zn,zU e.1,zU e.2.1,zU e.2.2]
 case lookup t m k ok=>simp only[zn,zU e.1,zU e.2]
 case slice t y lo hi mx=>
  cases mx with
  | some m=>rfl
  | none=>
    have o:kZ d y=false/\lo.toList.any (kZ d)=false/\hi.toList.any (kZ d)=false:=by
     simp only[Op.operands] at j
     cases lo<;>cases hi<;>simp_all
    obtain ⟨o,u,w⟩:=o
    simp only[zn,zU o,KJ lo u,KJ hi w]
 case call c=>exact (KL (h:=h) e).1
theorem xUa {d e:Nat} (a:d≠e) (x y:AV):upd (upd T d x) e y=upd (upd T e y) d x:=by
 funext i
 simp only[upd]
 split
 ·rename_i b;subst b;rw[if_neg (λh=>a h.symm)]
 ·rfl
theorem Qd {d:Nat} {x y:AV} {o:Oper} (b:o.dst≠some d):zL (upd T d x) o.dst y=upd (zL T o.dst y) d x:=by
 cases a:o.dst with
 | none=>rfl
 | some e=>exact xUa (λh=>b (by rw[a,h])) x y
theorem y8 {o:Oper} {K K':Env->List Ob->Prop} (k:xS P T h o K) (b:∀T h,K T h->K' T h):xS P T h o K':=by
 unfold xS at*
 split
 ·rename_i x h' a;rw[a] at k;exact b _ _ k
 ·rename_i a
  rw[a] at k
  clear a
  generalize o.op=op at k⊢
  cases op<;>first
   | exact k.elim
   | skip
  rename_i c
  simp only at k⊢
  cases d:vf T c with
  | none=>rw[d] at k;exact k.elim
  | some q=>
    rw[d] at k
    exact k.mono λ_ _=>b _ _
theorem yE {o:Oper} {run a:(Env->List Ob->Prop)->Env->List Ob->Prop} {K K':Env->List Ob->Prop} (k:jt ops o run K T h) (c:run K T h->a K' T h) (f:K (zL T o.dst (.v undef)) h->K' (zL T o.dst (.v undef)) h):jt ops o a K' T h:=by
 unfold jt at*
 cases b:o.guard with
 | none=>simp only[b] at k ⊢;exact c k
 | some q=>
   obtain ⟨j,g⟩:=q
   simp only[b] at k⊢
   cases i:(ops[j]?).bind (·.dst) with
   | none=>simp only[i] at k
   | some d=>
     simp only[i] at k⊢
     split at k
     ·exact ⟨λe=>c (k.1 e),λe=>f (k.2 e)⟩
     ·exact f k
     ·exact k
theorem VD {b:List Ob} {o:Oper} {run a:(Env->List Ob->Prop)->Env->List Ob->Prop} {K K':Env->List Ob->Prop} (k:jt ops o run K T h) (f:run K T h->a K' T b) (g:K (zL T o.dst (.v undef)) h->K' (zL T o.dst (.v undef)) b):jt ops o a K' T b:=by
 unfold jt at*
 cases c:o.guard with
 | none=>simp only[c] at k ⊢;exact f k
 | some q=>
   obtain ⟨j,i⟩:=q
   simp only[c] at k⊢
   cases l:(ops[j]?).bind (·.dst) with
   | none=>simp only[l] at k
   | some d=>
     simp only[l] at k⊢
     split at k
     ·exact ⟨λe=>f (k.1 e),λe=>g (k.2 e)⟩
     ·exact g k
     ·exact k
theorem jf {o:Oper} {K K':Env->List Ob->Prop} (k:jU P ops o K T h) (a:∀T h,K T h->K' T h):jU P ops o K' T h:=
 yE k (λk=>y8 k a) (a _ _)
theorem YW {id:Nat} {o:Oper} {K K':Env->List Ob->Prop} (k:yD P id o K T h) (b:∀T h,K T h->K' T h):yD P id o K' T h:=by
 unfold yD at*
 split
 ·rename_i ob mk a;rw[a] at k;exact ⟨k.1,b _ _ k.2⟩
 ·rename_i a;rw[a] at k;exact k
theorem xVa {d:Nat} {x:AV} {o:Oper} {K:Env->List Ob->Prop} (a:o.op.operands.toList.any (kZ d)=false) (b:o.dst≠some d):xS P (upd T d x) h o K=xS P T h o (λg e=>K (upd g d x) e):=by
 unfold xS
 rw[km o.op a]
 split
 ·rw[Qd b]
 ·split
  ·rename_i c f
   rw[f] at a
   rw[(KL (P:=P) (h:=h) a).2]
   split
   ·simp only[Qd b]
   ·rfl
  ·rfl
theorem YX {d:Nat} {x:AV} {o:Oper} {run:(Env->List Ob->Prop)->Env->List Ob->Prop} {K:Env->List Ob->Prop} (a:jH ops o d=false) (n:o.dst≠some d) (g:run K (upd T d x) h=run (λf b=>K (upd f d x) b) T h):jt ops o run K (upd T d x) h=jt ops o run (λf b=>K (upd f d x) b) T h:=by
 unfold jH at a
 rw[Bool.or_eq_false_iff] at a
 unfold jt
 cases k:o.guard with
 | none=>simp only[];exact g
 | some q=>
   obtain ⟨j,i⟩:=q
   rw[k] at a
   simp only[]
   cases m:(ops[j]?).bind (·.dst) with
   | none=>rfl
   | some e=>
     have c:e≠d:=λh=>by
      have:=a.2
      simp[m,h] at this
     have l:upd T d x e=T e:=by simp[upd,c]
     simp only[l,g,Qd n]
theorem y9 {d:Nat} {x:AV} {o:Oper} {K:Env->List Ob->Prop} (a:jH ops o d=false) (b:o.dst≠some d):jU P ops o K (upd T d x) h=jU P ops o (λe c=>K (upd e d x) c) T h:=
 YX a b (xVa (by unfold jH at a;rw[Bool.or_eq_false_iff] at a;exact a.1) b)
def ww (P:Program) (ops:Array Oper) (T:Env) (h:List Ob) (o:Oper):Option AV:=match o.guard with
 | none=>(zn P T h o.op).map (·.1)
 | some (j,a)=>match (ops[j]?).bind (·.dst) with
   | some d=>match T d with
     | .v (.bool b)=>if b=a then (zn P T h o.op).map (·.1) else some (.v undef)
     | .v (.tuple _)=>some (.v undef)
     | _=>none
   | none=>none
theorem YY {op:Op} (b:cls op<=1) {x:AV} {h':List Ob} (a:zn P T h op=some (x,h')):h'=h:=by
 cases op<;>simp only[cls] at b<;>try (omega;done)
 case call c=>
  obtain ⟨callee,args,d⟩:=c
  simp only[zn,wu] at a
  split at a
  ·split at a
   ·obtain ⟨_,_,_,e⟩:=qT a;exact e.symm
   ·cases a
  ·simp at b
  ·simp at b
  ·simp at b
  ·obtain ⟨_,_,_,e⟩:=qT a;exact e.symm
  ·obtain ⟨_,_,_,e⟩:=qT a;exact e.symm
  ·cases a
 case slice t y lo hi mx=>
  cases mx with
  | some m=>cases a
  | none=>
    simp only[zn] at a
    split at a
    ·simp only[Option.bind_eq_some_iff] at a
     obtain ⟨_,_,_,_,_,_,a⟩:=a
     split at a
     ·injection a with a;injection a with _ a;exact a.symm
     ·cases a
    ·cases a
 case build t ps=>
  simp only[zn] at a
  split at a
  ·split at a
   ·simp only[Option.bind_eq_some_iff] at a
    obtain ⟨_,_,a⟩:=a
    obtain ⟨_,_,_,e⟩:=qT a;exact e.symm
   ·cases a
  ·split at a
   ·simp only[Option.bind_eq_some_iff] at a
    obtain ⟨_,_,a⟩:=a
    obtain ⟨_,_,_,e⟩:=qT a;exact e.symm
   ·cases a
  ·cases a
 case fieldAddr t y i=>
  simp only[zn] at a
  split at a
  ·simp only[Option.bind_eq_some_iff] at a
   obtain ⟨_,_,a⟩:=a
   split at a
   ·split at a
    ·injection a with a;injection a with _ a;exact a.symm
    ·injection a with a;injection a with _ a;exact a.symm
    ·cases a
   ·cases a
  ·cases a
 case field t y i=>
  simp only[zn] at a
  split at a
  ·simp only[Option.bind_eq_some_iff] at a
   obtain ⟨_,_,a⟩:=a
   split at a
   ·obtain ⟨_,_,_,e⟩:=qT a;exact e.symm
   ·cases a
  ·cases a
 all_goals
  simp only[zn] at a
  (repeat' split at a)
 all_goals first
  | cases a;done
  | (injection a with a;injection a with _ a;exact a.symm)
  | (simp only[Option.map_eq_some_iff,Prod.mk.injEq] at a;obtain ⟨_,_,_,e⟩:=a;exact e.symm)
end
end Go.Proofs.YtfmldcilgbbimaaGreat.Ax
