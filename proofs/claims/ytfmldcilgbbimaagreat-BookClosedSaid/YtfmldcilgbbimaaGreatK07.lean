/-
  Joined.
-/
import Derived.Test.YtfmldcilgbbimaaGreatK06
import Derived.Orders
set_option linter.unusedSimpArgs false
set_option linter.unusedVariables false
namespace Go.Proofs.YtfmldcilgbbimaaGreat.Ax
open Go Go.RowKit
def cls:Op->Nat
 | .move _ | .assign _ | .pick .. | .build .. | .nilCheck _ | .unOp .. | .convert .. | .makeFunc .. | .fieldAddr .. | .extract .. | .field .. | .index .. =>0
 | .binOp _ _ _ y _=>if QG y then 1 else 0
 | .load .. | .indexAddr .. | .slice .. | .lookup .. =>1
 | .call { callee:= .builtin .len, .. }=>1
 | .call { callee:= .builtin .max, .. } | .call { callee:= .builtin .min, .. }=>0
 | .alloc .. | .box .. | .buildSlice .. | .makeSlice .. | .makeMap .. =>3
 | _=>2
def wm (d:Nat):Operand->Bool
 | .tmp t=>t==d
 | _=>false
def xr (ops:Array Oper) (o:Oper) (d:Nat):Bool:=
 (o.op.operands.toList.any (wm d)) || (match o.guard with
  | some (j,_)=>(ops[j]?).bind (·.dst)==some d
  | none=>false)
def qsa (ops:Array Oper) (x y:Oper):Bool:=
 (match x.dst with
  | some d=> !xr ops y d && y.dst != some d
  | none=>true) && (match y.dst with
  | some d=> !xr ops x d
  | none=>true)
def jT (ops:Array Oper) (o:Oper) (run:(Env->List Ob->Prop)->Env->List Ob->Prop) (K:Env->List Ob->Prop) (T:Env) (h:List Ob):Prop:=match o.guard with
 | none=>run K T h
 | some (j,a)=>match (ops[j]?).bind (·.dst) with
   | some d=>match T d with
     | .v (.bool b)=>(b=a->run K T h)/\(b≠a->K (zZ T o.dst (.v undef)) h)
     | .v (.tuple _)=>K (zZ T o.dst (.v undef)) h
     | _=>False
   | none=>False
def yKa (P:Program) (o:Oper) (K:Env->List Ob->Prop) (T:Env) (h:List Ob):Prop:=vg P T h o K
def xK (P:Program) (ops:Array Oper) (o:Oper) (K:Env->List Ob->Prop) (T:Env) (h:List Ob):Prop:=jT ops o (yKa P o) K T h
def ZZ (P:Program) (id:Nat) (o:Oper) (K:Env->List Ob->Prop) (T:Env) (h:List Ob):Prop:=match qy P T o.op with
 | some (ob,mk)=>h[id]? =some .res/\K (zZ T o.dst (mk id)) (h.set id ob)
 | none=>False
def Vx (P:Program) (ops:Array Oper) (id:Nat) (o:Oper) (K:Env->List Ob->Prop) (T:Env) (h:List Ob):Prop:=jT ops o (ZZ P id o) K T h
section
variable {P:Program} {ops:Array Oper} {T:Env} {h:List Ob}
theorem qi {d:Nat} {x:AV} {y:Operand} (a:wm d y=false):ev (upd T d x) y=ev T y:=by
 cases y with
 | tmp t=>simp only[wm,beq_eq_false_iff_ne,ne_eq] at a;simp[ev,upd,a]
 | _=>rfl
theorem QI {d:Nat} {x:AV}:∀(l:List Operand),l.any (wm d)=false->evl (upd T d x) l=evl T l
 | [],_=>rfl
 | y::l,a=>by
   simp only[List.any_cons,Bool.or_eq_false_iff] at a
   simp only[evl,qi a.1,QI l a.2]
theorem zna {d:Nat} {x:AV}:∀(l:List (Nat × Operand)),(l.map (·.2)).any (wm d)=false->evs (upd T d x) l=evs T l
 | [],_=>rfl
 | (i,y)::l,a=>by
   simp only[List.map_cons,List.any_cons,Bool.or_eq_false_iff] at a
   simp only[evs,qi a.1,zna l a.2]
theorem Yk {d:Nat} {x:AV} {n:Int}:∀(y:Option Operand),y.toList.any (wm d)=false->yf (upd T d x) n y=yf T n y
 | none,_=>rfl
 | some y,a=>by
   have a:wm d y=false:=by simpa using a
   simp only[yf,qi a]
theorem Yl {d:Nat} {x:AV} {c:Call} (b:c.operands.toList.any (wm d)=false):yE P (upd T d x) h c=yE P T h c/\wu (upd T d x) c=wu T c:=by
 obtain ⟨callee,args,e⟩:=c
 obtain ⟨args⟩:=args
 obtain ⟨e⟩:=e
 have a:args.any (wm d)=false:=by
  simp only[Call.operands] at b
  cases callee<;>simp only[Array.toList_append,List.any_append,Bool.or_eq_false_iff] at b<;>exact b.2
 have f:=QI (T:=T) (x:=x) args a
 constructor
 ·unfold yE
  simp only
  split
  ·simp only[List.any_cons,Bool.or_eq_false_iff] at a;simp only[qi a.1]
  ·simp only[List.any_cons,Bool.or_eq_false_iff] at a;simp only[qi a.1,qi a.2.1]
  ·simp only[List.any_cons,Bool.or_eq_false_iff] at a;simp only[qi a.1]
  ·simp only[List.any_cons,Bool.or_eq_false_iff] at a;simp only[qi a.1,qi a.2.1]
  ·simp only[List.any_cons,Bool.or_eq_false_iff] at a;simp only[qi a.1,QI _ a.2]
  ·simp only[List.any_cons,Bool.or_eq_false_iff] at a;simp only[qi a.1,QI _ a.2]
  ·rfl
 ·unfold wu
  simp only
  split
  ·rename_i y
   simp only[Call.operands,Array.toList_append,List.any_append,Bool.or_eq_false_iff] at b
   have g:wm d y=false:=by simpa using b.1
   simp only[qi g,f]
  ·rfl
theorem Jp {d:Nat} {x:AV} (op:Op) (a:op.operands.toList.any (wm d)=false):qy P (upd T d x) op=qy P T op:=by
 cases op<;>simp only[Op.operands,List.any_cons,List.any_nil,Bool.or_false,Bool.or_eq_false_iff,Array.toList_append,List.any_append] at a<;>try (rfl;done)
 case box t y=>simp only[qy,qi a]
 case buildSlice t n ps=>simp only[qy,zna ps.toList a]
 case makeSlice t l c=>simp only[qy,qi a.1,qi a.2]
 case makeMap t r=>cases r<;>rfl
theorem vn {d:Nat} {x:AV} (op:Op) (e:op.operands.toList.any (wm d)=false):zt P (upd T d x) h op=zt P T h op:=by
 have g:=Jp (P:=P) (T:=T) (x:=x) op e
 have j:=e
 cases op<;>simp only[Op.operands,List.any_cons,List.any_nil,Bool.or_false,Bool.or_eq_false_iff,Array.toList_append,List.any_append] at e<;>try (rfl;done)
 case move y=>simp only[zt,qi e]
 case assign y=>simp only[zt,qi e]
 case pick a b c=>simp only[zt,qi e.1,qi e.2.1,qi e.2.2]
 case box t y=>simp only[zt,g]
 case build t ps=>simp only[zt,zna ps.toList e]
 case buildSlice t n ps=>simp only[zt,g]
 case makeSlice t l c=>simp only[zt,g]
 case makeMap t r=>simp only[zt,g]
 case load t y=>simp only[zt,qi e]
 case store t y z=>simp only[zt,qi e.1,qi e.2]
 case nilCheck y=>simp only[zt,qi e]
 case binOp op t y z _=>simp only[zt,qi e.1,qi e.2]
 case unOp op t y=>simp only[zt,qi e]
 case convert s t y=>simp only[zt,qi e]
 case makeFunc f p q=>simp only[zt,QI p.toList e.1,QI q.toList e.2]
 case fieldAddr t y i=>simp only[zt,qi e]
 case field t y i=>simp only[zt,qi e]
 case indexAddr t y i=>simp only[zt,qi e.1,qi e.2]
 case index t y i=>simp only[zt,qi e.1,qi e.2]
 case extract y i=>simp only[zt,qi e]
 case insert t m k v=>simp only[zt,qi e.1,qi e.2.1,qi e.2.2]
 case lookup t m k ok=>simp only[zt,qi e.1,qi e.2]
 case slice t y lo hi mx=>
  cases mx with
  | some m=>rfl
  | none=>
    have o:wm d y=false/\lo.toList.any (wm d)=false/\hi.toList.any (wm d)=false:=by
     simp only[Op.operands] at j
     cases lo<;>cases hi<;>simp_all
    obtain ⟨o,u,w⟩:=o
    simp only[zt,qi o,Yk lo u,Yk hi w]
 case call c=>exact (Yl (h:=h) e).1
theorem yLa {d e:Nat} (a:d≠e) (x y:AV):upd (upd T d x) e y=upd (upd T e y) d x:=by
 funext i
 simp only[upd]
 split
 ·rename_i b;subst b;rw[if_neg (λh=>a h.symm)]
 ·rfl
theorem J0 {d:Nat} {x y:AV} {o:Oper} (b:o.dst≠some d):zZ (upd T d x) o.dst y=upd (zZ T o.dst y) d x:=by
 cases a:o.dst with
 | none=>rfl
 | some e=>exact yLa (λh=>b (by rw[a,h])) x y
theorem QJ {o:Oper} {K K':Env->List Ob->Prop} (k:vg P T h o K) (d:∀T h,K T h->K' T h):vg P T h o K':=by
 unfold vg at*
 split
 ·rename_i x h' a;rw[a] at k;exact d _ _ k
 ·rename_i a
  rw[a] at k
  clear a
  generalize o.op=op at k⊢
  cases op<;>first
   | exact k.elim
   | skip
  rename_i c
  simp only at k⊢
  cases b:wu T c with
  | none=>rw[b] at k;exact k.elim
  | some q=>
    rw[b] at k
    exact k.mono λ_ _=>d _ _
theorem Z0 {o:Oper} {run a:(Env->List Ob->Prop)->Env->List Ob->Prop} {K K':Env->List Ob->Prop} (k:jT ops o run K T h) (f:run K T h->a K' T h) (c:K (zZ T o.dst (.v undef)) h->K' (zZ T o.dst (.v undef)) h):jT ops o a K' T h:=by
 unfold jT at*
 cases g:o.guard with
 | none=>simp only[g] at k ⊢;exact f k
 | some q=>
   obtain ⟨j,i⟩:=q
   simp only[g] at k⊢
   cases b:(ops[j]?).bind (·.dst) with
   | none=>simp only[b] at k
   | some d=>
     simp only[b] at k⊢
     split at k
     ·exact ⟨λe=>f (k.1 e),λe=>c (k.2 e)⟩
     ·exact c k
     ·exact k
theorem zoa {b:List Ob} {o:Oper} {run a:(Env->List Ob->Prop)->Env->List Ob->Prop} {K K':Env->List Ob->Prop} (k:jT ops o run K T h) (g:run K T h->a K' T b) (f:K (zZ T o.dst (.v undef)) h->K' (zZ T o.dst (.v undef)) b):jT ops o a K' T b:=by
 unfold jT at*
 cases i:o.guard with
 | none=>simp only[i] at k ⊢;exact g k
 | some q=>
   obtain ⟨j,l⟩:=q
   simp only[i] at k⊢
   cases c:(ops[j]?).bind (·.dst) with
   | none=>simp only[c] at k
   | some d=>
     simp only[c] at k⊢
     split at k
     ·exact ⟨λe=>g (k.1 e),λe=>f (k.2 e)⟩
     ·exact f k
     ·exact k
theorem jF {o:Oper} {K K':Env->List Ob->Prop} (k:xK P ops o K T h) (a:∀T h,K T h->K' T h):xK P ops o K' T h:=
 Z0 k (λk=>QJ k a) (a _ _)
theorem xga {id:Nat} {o:Oper} {K K':Env->List Ob->Prop} (k:ZZ P id o K T h) (b:∀T h,K T h->K' T h):ZZ P id o K' T h:=by
 unfold ZZ at*
 split
 ·rename_i ob mk a;rw[a] at k;exact ⟨k.1,b _ _ k.2⟩
 ·rename_i a;rw[a] at k;exact k
theorem yMa {d:Nat} {x:AV} {o:Oper} {K:Env->List Ob->Prop} (a:o.op.operands.toList.any (wm d)=false) (b:o.dst≠some d):vg P (upd T d x) h o K=vg P T h o (λf e=>K (upd f d x) e):=by
 unfold vg
 rw[vn o.op a]
 split
 ·rw[J0 b]
 ·split
  ·rename_i c g
   rw[g] at a
   rw[(Yl (P:=P) (h:=h) a).2]
   split
   ·simp only[J0 b]
   ·rfl
  ·rfl
theorem xha {d:Nat} {x:AV} {o:Oper} {run:(Env->List Ob->Prop)->Env->List Ob->Prop} {K:Env->List Ob->Prop} (a:xr ops o d=false) (k:o.dst≠some d) (g:run K (upd T d x) h=run (λf c=>K (upd f d x) c) T h):jT ops o run K (upd T d x) h=jT ops o run (λf c=>K (upd f d x) c) T h:=by
 unfold xr at a
 rw[Bool.or_eq_false_iff] at a
 unfold jT
 cases m:o.guard with
 | none=>simp only[];exact g
 | some q=>
   obtain ⟨j,i⟩:=q
   rw[m] at a
   simp only[]
   cases l:(ops[j]?).bind (·.dst) with
   | none=>rfl
   | some e=>
     have b:e≠d:=λh=>by
      have:=a.2
      simp[l,h] at this
     have n:upd T d x e=T e:=by simp[upd,b]
     simp only[n,g,J0 k]
theorem QK {d:Nat} {x:AV} {o:Oper} {K:Env->List Ob->Prop} (a:xr ops o d=false) (b:o.dst≠some d):xK P ops o K (upd T d x) h=xK P ops o (λe c=>K (upd e d x) c) T h:=
 xha a b (yMa (by unfold xr at a;rw[Bool.or_eq_false_iff] at a;exact a.1) b)
def yG (P:Program) (ops:Array Oper) (T:Env) (h:List Ob) (o:Oper):Option AV:=match o.guard with
 | none=>(zt P T h o.op).map (·.1)
 | some (j,a)=>match (ops[j]?).bind (·.dst) with
   | some d=>match T d with
     | .v (.bool b)=>if b=a then (zt P T h o.op).map (·.1) else some (.v undef)
     | .v (.tuple _)=>some (.v undef)
     | _=>none
   | none=>none
theorem xia {op:Op} (b:cls op<=1) {x:AV} {h':List Ob} (a:zt P T h op=some (x,h')):h'=h:=by
 cases op<;>simp only[cls] at b<;>try (omega;done)
 case call c=>
  obtain ⟨callee,args,d⟩:=c
  simp only[zt,yE] at a
  split at a
  ·split at a
   ·obtain ⟨_,_,_,e⟩:=jp a;exact e.symm
   ·cases a
  ·simp at b
  ·simp at b
  ·simp at b
  ·obtain ⟨_,_,_,e⟩:=jp a;exact e.symm
  ·obtain ⟨_,_,_,e⟩:=jp a;exact e.symm
  ·cases a
 case slice t y lo hi mx=>
  cases mx with
  | some m=>cases a
  | none=>
    simp only[zt] at a
    split at a
    ·simp only[Option.bind_eq_some_iff] at a
     obtain ⟨_,_,_,_,_,_,a⟩:=a
     split at a
     ·injection a with a;injection a with _ a;exact a.symm
     ·cases a
    ·cases a
 case build t ps=>
  simp only[zt] at a
  split at a
  ·split at a
   ·simp only[Option.bind_eq_some_iff] at a
    obtain ⟨_,_,a⟩:=a
    obtain ⟨_,_,_,e⟩:=jp a;exact e.symm
   ·cases a
  ·split at a
   ·simp only[Option.bind_eq_some_iff] at a
    obtain ⟨_,_,a⟩:=a
    obtain ⟨_,_,_,e⟩:=jp a;exact e.symm
   ·cases a
  ·cases a
 case fieldAddr t y i=>
  simp only[zt] at a
  split at a
  ·simp only[Option.bind_eq_some_iff] at a
   obtain ⟨_,_,a⟩:=a
   split at a
   ·split at a
    ·injection a with a;injection a with _ a;exact a.symm
    ·injection a with a;injection a with _ a;exact a.symm
    ·cases a
   ·cases a
  ·cases a
 case field t y i=>
  simp only[zt] at a
  split at a
  ·simp only[Option.bind_eq_some_iff] at a
   obtain ⟨_,_,a⟩:=a
   split at a
   ·obtain ⟨_,_,_,e⟩:=jp a;exact e.symm
   ·cases a
  ·cases a
 all_goals
  simp only[zt] at a
  (repeat' split at a)
 all_goals first
  | cases a;done
  | (injection a with a;injection a with _ a;exact a.symm)
  | (simp only[Option.map_eq_some_iff,Prod.mk.injEq] at a;obtain ⟨_,_,_,e⟩:=a;exact e.symm)
end
end Go.Proofs.YtfmldcilgbbimaaGreat.Ax
