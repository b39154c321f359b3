import Derived.Test.YtigdlmpjijhpaaaGreatKA
import Derived.Test.YtigdlmpjijhpaaaGreatK06
import Derived.Orders
set_option linter.all false
namespace Go.Proofs.YtigdlmpjijhpaaaGreat.Ax
open Go Go.RowKit
def cls:Op->Nat
 | .move _ | .assign _ | .pick .. | .build .. | .nilCheck _ | .unOp .. | .convert .. | .makeFunc .. | .fieldAddr .. | .extract .. | .field .. | .index .. =>0
 | .binOp _ _ _ y _=>if Xo y then 1 else 0
 | .load .. | .indexAddr .. | .slice .. | .lookup .. =>1
 | .call { callee:= .builtin .len, .. }=>1
 | .call { callee:= .builtin .max, .. } | .call { callee:= .builtin .min, .. }=>0
 | .alloc .. | .box .. | .buildSlice .. | .makeSlice .. | .makeMap .. =>3
 | _=>2
def Zf(d:Nat):Operand->Bool
 | .tmp t=>t==d
 | _=>false
def vv(ops:Array Oper)(o:Oper)(d:Nat):Bool:=
 (o.op.operands.toList.any (Zf d)) || (match o.guard with
  | some (j,_)=>(ops[j]?).bind (·.dst)==some d
  | none=>false)
def xLa(ops:Array Oper)(x y:Oper):Bool:=
 (match x.dst with
  | some d=> !vv ops y d && y.dst != some d
  | none=>true) && (match y.dst with
  | some d=> !vv ops x d
  | none=>true)
def kT(ops:Array Oper)(o:Oper)(run:(Env->List Ob->Prop)->Env->List Ob->Prop)(K:Env->List Ob->Prop)(T:Env)(h:List Ob):Prop:=match o.guard with
 | none=>run K T h
 | some (j,want)=>match (ops[j]?).bind (·.dst) with
   | some d=>match T d with
     | .v (.bool b)=>(b=want->run K T h)/\(b≠want->K (jb T o.dst (.v undef)) h)
     | .v (.tuple _)=>K (jb T o.dst (.v undef)) h
     | _=>False
   | none=>False
def JKa(P:Program)(o:Oper)(K:Env->List Ob->Prop)(T:Env)(h:List Ob):Prop:=yk P T h o K
def vO(P:Program)(ops:Array Oper)(o:Oper)(K:Env->List Ob->Prop)(T:Env)(h:List Ob):Prop:=kT ops o (JKa P o) K T h
def JP(P:Program)(id:Nat)(o:Oper)(K:Env->List Ob->Prop)(T:Env)(h:List Ob):Prop:=match jG P T o.op with
 | some (ob,mk)=>h[id]? =some .res/\K (jb T o.dst (mk id)) (h.set id ob)
 | none=>False
def YB(P:Program)(ops:Array Oper)(id:Nat)(o:Oper)(K:Env->List Ob->Prop)(T:Env)(h:List Ob):Prop:=kT ops o (JP P id o) K T h
section
variable {P:Program} {ops:Array Oper} {T:Env} {h:List Ob}
theorem jo{d:Nat}{x:AV}{y:Operand}(a:Zf d y=false):ev (upd T d x) y=ev T y:=by
 cases y with
 | tmp t=>simp only[Zf,beq_eq_false_iff_ne,ne_eq] at a;simp[ev,upd,a]
 | _=>rfl
theorem Xr{d:Nat}{x:AV}:∀(l:List Operand),l.any (Zf d)=false->evl (upd T d x) l=evl T l
 | [],_=>rfl
 | y::l,a=>by
   simp only[List.any_cons,zY] at a
   simp only[evl,jo a.1,Xr l a.2]
theorem jBa{d:Nat}{x:AV}:∀(l:List (Nat × Operand)),(l.map (·.2)).any (Zf d)=false->evs (upd T d x) l=evs T l
 | [],_=>rfl
 | (i,y)::l,a=>by
   simp only[List.map_cons,List.any_cons,zY] at a
   simp only[evs,jo a.1,jBa l a.2]
theorem qua{d:Nat}{x:AV}{n:Int}:∀(y:Option Operand),y.toList.any (Zf d)=false->Z2 (upd T d x) n y=Z2 T n y
 | none,_=>rfl
 | some y,a=>by
   have a:Zf d y=false:=by simpa using a
   simp only[Z2,jo a]
theorem qva{d:Nat}{x:AV}{c:Call}(b:c.operands.toList.any (Zf d)=false):Qr P (upd T d x) h c=Qr P T h c/\Zj (upd T d x) c=Zj T c:=by
 obtain⟨callee,args,e⟩:=c
 obtain⟨args⟩:=args
 obtain⟨e⟩:=e
 have a:args.any (Zf d)=false:=by
  simp only[Call.operands] at b
  cases callee<;>simp only[Array.toList_append,List.any_append,zY] at b<;>exact b.2
 have g:=Xr (T:=T) (x:=x) args a
 constructor
 ·unfold Qr
  simp only
  split
  ·simp only[List.any_cons,zY] at a;simp only[jo a.1]
  ·simp only[List.any_cons,zY] at a;simp only[jo a.1,jo a.2.1]
  ·simp only[List.any_cons,zY] at a;simp only[jo a.1]
  ·simp only[List.any_cons,zY] at a;simp only[jo a.1,jo a.2.1]
  ·simp only[List.any_cons,zY] at a;simp only[jo a.1,Xr _ a.2]
  ·simp only[List.any_cons,zY] at a;simp only[jo a.1,Xr _ a.2]
  ·rfl
 ·unfold Zj
  simp only
  split
  ·rename_i y
   simp only[Call.operands,Array.toList_append,List.any_append,zY] at b
   have f:Zf d y=false:=by simpa using b.1
   simp only[jo f,g]
  ·rfl
theorem Kf{d:Nat}{x:AV}(op:Op)(a:op.operands.toList.any (Zf d)=false):jG P (upd T d x) op=jG P T op:=by
 cases op<;>simp only[Op.operands,List.any_cons,List.any_nil,Bool.or_false,zY,Array.toList_append,List.any_append] at a<;>try (rfl;done)
 case box t y=>simp only[jG,jo a]
 case buildSlice t n ps=>simp only[jG,jBa ps.toList a]
 case makeSlice t l c=>simp only[jG,jo a.1,jo a.2]
 case makeMap t r=>cases r<;>rfl
theorem yu{d:Nat}{x:AV}(op:Op)(e:op.operands.toList.any (Zf d)=false):qf P (upd T d x) h op=qf P T h op:=by
 have g:=Kf (P:=P) (T:=T) (x:=x) op e
 have j:=e
 cases op<;>simp only[Op.operands,List.any_cons,List.any_nil,Bool.or_false,zY,Array.toList_append,List.any_append] at e<;>try (rfl;done)
 case move y=>simp only[qf,jo e]
 case assign y=>simp only[qf,jo e]
 case pick a b c=>simp only[qf,jo e.1,jo e.2.1,jo e.2.2]
 case box t y=>simp only[qf,g]
 case build t ps=>simp only[qf,jBa ps.toList e]
 case buildSlice t n ps=>simp only[qf,g]
 case makeSlice t l c=>simp only[qf,g]
 case makeMap t r=>simp only[qf,g]
 case load t y=>simp only[qf,jo e]
 case store t y z=>simp only[qf,jo e.1,jo e.2]
 case nilCheck y=>simp only[qf,jo e]
 case binOp op t y z _=>simp only[qf,jo e.1,jo e.2]
 case unOp op t y=>simp only[qf,jo e]
 case convert s t y=>simp only[qf,jo e]
 case makeFunc f p q=>simp only[qf,Xr p.toList e.1,Xr q.toList e.2]
 case fieldAddr t y i=>simp only[qf,jo e]
 case field t y i=>simp only[qf,jo e]
 case indexAddr t y i=>simp only[qf,jo e.1,jo e.2]
 case index t y i=>simp only[qf,jo e.1,jo e.2]
 case extract y i=>simp only[qf,jo e]
 case insert t m k v=>simp only[qf,jo e.1,jo e.2.1,jo e.2.2]
 case lookup t m k ok=>simp only[qf,jo e.1,jo e.2]
 case slice t y lo hi mx=>
  cases mx with
  | some m=>rfl
  | none=>
    have o:Zf d y=false/\lo.toList.any (Zf d)=false/\hi.toList.any (Zf d)=false:=by
     simp only[Op.operands] at j
     cases lo<;>cases hi<;>simp_all
    obtain⟨o,u,w⟩:=o
    simp only[qf,jo o,qua lo u,qua hi w]
 case call c=>exact(qva (h:=h) e).1
theorem JLa{d e:Nat}(a:d≠e)(x y:AV):upd (upd T d x) e y=upd (upd T e y) d x:=by
 funext i
 simp only[upd]
 split
 ·rename_i hi;subst hi;rw[if_neg (λh=>a h.symm)]
 ·rfl
theorem KR{d:Nat}{x y:AV}{o:Oper}(a:o.dst≠some d):jb (upd T d x) o.dst y=upd (jb T o.dst y) d x:=by
 cases b:o.dst with
 | none=>rfl
 | some e=>exact JLa (λh=>a (by rw[b,h])) x y
theorem Xs{o:Oper}{K K':Env->List Ob->Prop}(k:yk P T h o K)(b:∀T h,K T h->K' T h):yk P T h o K':=by
 unfold yk at*
 split
 ·rename_i x h' a;rw[a] at k;exact b _ _ k
 ·rename_i a
  rw[a] at k
  clear a
  generalize o.op=op at k⊢
  cases op<;>first
   | exact k.elim
   | skip
  rename_i c
  simp only at k⊢
  cases d:Zj T c with
  | none=>rw[d] at k;exact k.elim
  | some q=>
    rw[d] at k
    exact k.mono λ_ _=>b _ _
theorem JQ{o:Oper}{run a:(Env->List Ob->Prop)->Env->List Ob->Prop}{K K':Env->List Ob->Prop}(k:kT ops o run K T h)(c:run K T h->a K' T h)(f:K (jb T o.dst (.v undef)) h->K' (jb T o.dst (.v undef)) h):kT ops o a K' T h:=by
 unfold kT at*
 cases g:o.guard with
 | none=>simp only[g] at k ⊢;exact c k
 | some q=>
   obtain⟨j,want⟩:=q
   simp only[g] at k⊢
   cases b:(ops[j]?).bind (·.dst) with
   | none=>simp only[b] at k
   | some d=>
     simp only[b] at k⊢
     split at k
     ·exact⟨λe=>c (k.1 e),λe=>f (k.2 e)⟩
     ·exact f k
     ·exact k
theorem jCa{b:List Ob}{o:Oper}{run a:(Env->List Ob->Prop)->Env->List Ob->Prop}{K K':Env->List Ob->Prop}(k:kT ops o run K T h)(f:run K T h->a K' T b)(g:K (jb T o.dst (.v undef)) h->K' (jb T o.dst (.v undef)) b):kT ops o a K' T b:=by
 unfold kT at*
 cases i:o.guard with
 | none=>simp only[i] at k ⊢;exact f k
 | some q=>
   obtain⟨j,want⟩:=q
   simp only[i] at k⊢
   cases c:(ops[j]?).bind (·.dst) with
   | none=>simp only[c] at k
   | some d=>
     simp only[c] at k⊢
     split at k
     ·exact⟨λe=>f (k.1 e),λe=>g (k.2 e)⟩
     ·exact g k
     ·exact k
theorem kx{o:Oper}{K K':Env->List Ob->Prop}(k:vO P ops o K T h)(a:∀T h,K T h->K' T h):vO P ops o K' T h:=
 JQ k (λk=>Xs k a) (a _ _)
theorem vHa{id:Nat}{o:Oper}{K K':Env->List Ob->Prop}(k:JP P id o K T h)(b:∀T h,K T h->K' T h):JP P id o K' T h:=by
 unfold JP at*
 split
 ·rename_i ob mk a;rw[a] at k;exact⟨k.1,b _ _ k.2⟩
 ·rename_i a;rw[a] at k;exact k
theorem JMa{d:Nat}{x:AV}{o:Oper}{K:Env->List Ob->Prop}(a:o.op.operands.toList.any (Zf d)=false)(b:o.dst≠some d):yk P (upd T d x) h o K=yk P T h o (λg e=>K (upd g d x) e):=by
 unfold yk
 rw[yu o.op a]
 split
 ·rw[KR b]
 ·split
  ·rename_i c f
   rw[f] at a
   rw[(qva (P:=P) (h:=h) a).2]
   split
   ·simp only[KR b]
   ·rfl
  ·rfl
theorem vIa{d:Nat}{x:AV}{o:Oper}{run:(Env->List Ob->Prop)->Env->List Ob->Prop}{K:Env->List Ob->Prop}(a:vv ops o d=false)(i:o.dst≠some d)(g:run K (upd T d x) h=run (λf c=>K (upd f d x) c) T h):kT ops o run K (upd T d x) h=kT ops o run (λf c=>K (upd f d x) c) T h:=by
 unfold vv at a
 rw[zY] at a
 unfold kT
 cases l:o.guard with
 | none=>simp only[];exact g
 | some q=>
   obtain⟨j,want⟩:=q
   rw[l] at a
   simp only[]
   cases k:(ops[j]?).bind (·.dst) with
   | none=>rfl
   | some e=>
     have b:e≠d:=λh=>by
      have:=a.2
      simp[k,h] at this
     have m:upd T d x e=T e:=by simp[upd,b]
     simp only[m,g,KR i]
theorem Xt{d:Nat}{x:AV}{o:Oper}{K:Env->List Ob->Prop}(a:vv ops o d=false)(b:o.dst≠some d):vO P ops o K (upd T d x) h=vO P ops o (λe c=>K (upd e d x) c) T h:=
 vIa a b (JMa (by unfold vv at a;rw[zY] at a;exact a.1) b)
def Qt(P:Program)(ops:Array Oper)(T:Env)(h:List Ob)(o:Oper):Option AV:=match o.guard with
 | none=>(qf P T h o.op).map (·.1)
 | some (j,want)=>match (ops[j]?).bind (·.dst) with
   | some d=>match T d with
     | .v (.bool b)=>if b=want then(qf P T h o.op).map (·.1) else some (.v undef)
     | .v (.tuple _)=>some (.v undef)
     | _=>none
   | none=>none
theorem vJa{op:Op}(b:cls op<=1){x:AV}{h':List Ob}(a:qf P T h op=some (x,h')):h'=h:=by
 cases op<;>simp only[cls] at b<;>try (omega;done)
 case call c=>
  obtain⟨callee,args,d⟩:=c
  simp only[qf,Qr] at a
  split at a
  ·split at a
   ·obtain⟨_,_,_,e⟩:=xM a;exact e.symm
   ·cases a
  ·simp at b
  ·simp at b
  ·simp at b
  ·obtain⟨_,_,_,e⟩:=xM a;exact e.symm
  ·obtain⟨_,_,_,e⟩:=xM a;exact e.symm
  ·cases a
 case slice t y lo hi mx=>
  cases mx with
  | some m=>cases a
  | none=>
    simp only[qf] at a
    split at a
    ·simp only[Option.bind_eq_some_iff] at a
     obtain⟨_,_,_,_,_,_,a⟩:=a
     split at a
     ·injection a with a;injection a with _ a;exact a.symm
     ·cases a
    ·cases a
 case build t ps=>
  simp only[qf] at a
  split at a
  ·split at a
   ·simp only[Option.bind_eq_some_iff] at a
    obtain⟨_,_,a⟩:=a
    obtain⟨_,_,_,e⟩:=xM a;exact e.symm
   ·cases a
  ·split at a
   ·simp only[Option.bind_eq_some_iff] at a
    obtain⟨_,_,a⟩:=a
    obtain⟨_,_,_,e⟩:=xM a;exact e.symm
   ·cases a
  ·cases a
 case fieldAddr t y i=>
  simp only[qf] at a
  split at a
  ·simp only[Option.bind_eq_some_iff] at a
   obtain⟨_,_,a⟩:=a
   split at a
   ·split at a
    ·injection a with a;injection a with _ a;exact a.symm
    ·injection a with a;injection a with _ a;exact a.symm
    ·cases a
   ·cases a
  ·cases a
 case field t y i=>
  simp only[qf] at a
  split at a
  ·simp only[Option.bind_eq_some_iff] at a
   obtain⟨_,_,a⟩:=a
   split at a
   ·obtain⟨_,_,_,e⟩:=xM a;exact e.symm
   ·cases a
  ·cases a
 all_goals
  simp only[qf] at a
  (repeat' split at a)
 all_goals first
  | cases a;done
  | (injection a with a;injection a with _ a;exact a.symm)
  | (simp only[Option.map_eq_some_iff,Prod.mk.injEq] at a;obtain⟨_,_,_,e⟩:=a;exact e.symm)
end
