import Derived.Test.YtigdlmpjijhpaaaGreatKA
import Derived.Test.YtigdlmpjijhpaaaGreatK06
import Derived.Orders
set_option linter.all false
namespace Go.Proofs.YtigdlmpjijhpaaaGreat.Ax
open Go Go.RowKit
def cls:Op->Nat
 | .move _ | .assign _ | .pick .. | .build .. | .nilCheck _ | .unOp .. | .convert .. | .makeFunc .. | .fieldAddr .. | .extract .. | .field .. | .index .. =>0
 | .binOp _ _ _ y _=>if QZ y then 1 else 0
 | .load .. | .indexAddr .. | .slice .. | .lookup .. =>1
 | .call { callee:= .builtin .len, .. }=>1
 | .call { callee:= .builtin .max, .. } | .call { callee:= .builtin .min, .. }=>0
 | .alloc .. | .box .. | .buildSlice .. | .makeSlice .. | .makeMap .. =>3
 | _=>2
def w8(d:Nat):Operand->Bool
 | .tmp t=>t==d
 | _=>false
def kD(ops:Array Oper)(o:Oper)(d:Nat):Bool:=
 (o.op.operands.toList.any (w8 d)) || (match o.guard with
  | some (j,_)=>(ops[j]?).bind (·.dst)==some d
  | none=>false)
def qza(ops:Array Oper)(x y:Oper):Bool:=
 (match x.dst with
  | some d=> !kD ops y d && y.dst != some d
  | none=>true) && (match y.dst with
  | some d=> !kD ops x d
  | none=>true)
def xY(ops:Array Oper)(o:Oper)(run:(Env->List Ob->Prop)->Env->List Ob->Prop)(K:Env->List Ob->Prop)(T:Env)(h:List Ob):Prop:=match o.guard with
 | none=>run K T h
 | some (j,a)=>match (ops[j]?).bind (·.dst) with
   | some d=>match T d with
     | .v (.bool b)=>(b=a->run K T h)/\(b≠a->K (qK T o.dst (.v undef)) h)
     | .v (.tuple _)=>K (qK T o.dst (.v undef)) h
     | _=>False
   | none=>False
def yya(P:Program)(o:Oper)(K:Env->List Ob->Prop)(T:Env)(h:List Ob):Prop:=wj P T h o K
def kU(P:Program)(ops:Array Oper)(o:Oper)(K:Env->List Ob->Prop)(T:Env)(h:List Ob):Prop:=xY ops o (yya P o) K T h
def Qw(P:Program)(id:Nat)(o:Oper)(K:Env->List Ob->Prop)(T:Env)(h:List Ob):Prop:=match jp P T o.op with
 | some (ob,mk)=>h[id]? =some .res/\K (qK T o.dst (mk id)) (h.set id ob)
 | none=>False
def VF(P:Program)(ops:Array Oper)(id:Nat)(o:Oper)(K:Env->List Ob->Prop)(T:Env)(h:List Ob):Prop:=xY ops o (Qw P id o) K T h
section
variable {P:Program} {ops:Array Oper} {T:Env} {h:List Ob}
theorem q9{d:Nat}{x:AV}{y:Operand}(a:w8 d y=false):ev (upd T d x) y=ev T y:=by
 cases y with
 | tmp t=>simp only[w8,beq_eq_false_iff_ne,ne_eq] at a;simp[ev,upd,a]
 | _=>rfl
theorem Q2{d:Nat}{x:AV}:∀(l:List Operand),l.any (w8 d)=false->evl (upd T d x) l=evl T l
 | [],_=>rfl
 | y::l,a=>by
   simp only[List.any_cons,zQ] at a
   simp only[evl,q9 a.1,Q2 l a.2]
theorem zFa{d:Nat}{x:AV}:∀(l:List (Nat × Operand)),(l.map (·.2)).any (w8 d)=false->evs (upd T d x) l=evs T l
 | [],_=>rfl
 | (i,y)::l,a=>by
   simp only[List.map_cons,List.any_cons,zQ] at a
   simp only[evs,q9 a.1,zFa l a.2]
theorem YA{d:Nat}{x:AV}{n:Int}:∀(y:Option Operand),y.toList.any (w8 d)=false->y8 (upd T d x) n y=y8 T n y
 | none,_=>rfl
 | some y,a=>by
   have a:w8 d y=false:=by simpa using a
   simp only[y8,q9 a]
theorem YB{d:Nat}{x:AV}{c:Call}(b:c.operands.toList.any (w8 d)=false):Zn P (upd T d x) h c=Zn P T h c/\yf (upd T d x) c=yf T c:=by
 obtain⟨callee,args,e⟩:=c
 obtain⟨args⟩:=args
 obtain⟨e⟩:=e
 have a:args.any (w8 d)=false:=by
  simp only[Call.operands] at b
  cases callee<;>simp only[Array.toList_append,List.any_append,zQ] at b<;>exact b.2
 have g:=Q2 (T:=T) (x:=x) args a
 constructor
 ·unfold Zn
  simp only
  split
  ·simp only[List.any_cons,zQ] at a;simp only[q9 a.1]
  ·simp only[List.any_cons,zQ] at a;simp only[q9 a.1,q9 a.2.1]
  ·simp only[List.any_cons,zQ] at a;simp only[q9 a.1]
  ·simp only[List.any_cons,zQ] at a;simp only[q9 a.1,q9 a.2.1]
  ·simp only[List.any_cons,zQ] at a;simp only[q9 a.1,Q2 _ a.2]
  ·simp only[List.any_cons,zQ] at a;simp only[q9 a.1,Q2 _ a.2]
  ·rfl
 ·unfold yf
  simp only
  split
  ·rename_i y
   simp only[Call.operands,Array.toList_append,List.any_append,zQ] at b
   have f:w8 d y=false:=by simpa using b.1
   simp only[q9 f,g]
  ·rfl
theorem JJ{d:Nat}{x:AV}(op:Op)(a:op.operands.toList.any (w8 d)=false):jp P (upd T d x) op=jp P T op:=by
 cases op<;>simp only[Op.operands,List.any_cons,List.any_nil,Bool.or_false,zQ,Array.toList_append,List.any_append] at a<;>try (rfl;done)
 case box t y=>simp only[jp,q9 a]
 case buildSlice t n ps=>simp only[jp,zFa ps.toList a]
 case makeSlice t l c=>simp only[jp,q9 a.1,q9 a.2]
 case makeMap t r=>cases r<;>rfl
theorem wv{d:Nat}{x:AV}(op:Op)(e:op.operands.toList.any (w8 d)=false):zW P (upd T d x) h op=zW P T h op:=by
 have g:=JJ (P:=P) (T:=T) (x:=x) op e
 have j:=e
 cases op<;>simp only[Op.operands,List.any_cons,List.any_nil,Bool.or_false,zQ,Array.toList_append,List.any_append] at e<;>try (rfl;done)
 case move y=>simp only[zW,q9 e]
 case assign y=>simp only[zW,q9 e]
 case pick a b c=>simp only[zW,q9 e.1,q9 e.2.1,q9 e.2.2]
 case box t y=>simp only[zW,g]
 case build t ps=>simp only[zW,zFa ps.toList e]
 case buildSlice t n ps=>simp only[zW,g]
 case makeSlice t l c=>simp only[zW,g]
 case makeMap t r=>simp only[zW,g]
 case load t y=>simp only[zW,q9 e]
 case store t y z=>simp only[zW,q9 e.1,q9 e.2]
 case nilCheck y=>simp only[zW,q9 e]
 case binOp op t y z _=>simp only[zW,q9 e.1,q9 e.2]
 case unOp op t y=>simp only[zW,q9 e]
 case convert s t y=>simp only[zW,q9 e]
 case makeFunc f p q=>simp only[zW,Q2 p.toList e.1,Q2 q.toList e.2]
 case fieldAddr t y i=>simp only[zW,q9 e]
 case field t y i=>simp only[zW,q9 e]
 case indexAddr t y i=>simp only[zW,q9 e.1,q9 e.2]
 case index t y i=>simp only[zW,q9 e.1,q9 e.2]
 case extract y i=>simp only[zW,q9 e]
 case insert t m k v=>simp only[zW,q9 e.1,q9 e.2.1,q9 e.2.2]
 case lookup t m k ok=>simp only[zW,q9 e.1,q9 e.2]
 case slice t y lo hi mx=>
  cases mx with
  | some m=>rfl
  | none=>
    have o:w8 d y=false/\lo.toList.any (w8 d)=false/\hi.toList.any (w8 d)=false:=by
     simp only[Op.operands] at j
     cases lo<;>cases hi<;>simp_all
    obtain⟨o,u,w⟩:=o
    simp only[zW,q9 o,YA lo u,YA hi w]
 case call c=>exact(YB (h:=h) e).1
theorem yza{d e:Nat}(a:d≠e)(x y:AV):upd (upd T d x) e y=upd (upd T e y) d x:=by
 funext i
 simp only[upd]
 split
 ·rename_i hi;subst hi;rw[if_neg (λh=>a h.symm)]
 ·rfl
theorem Xm{d:Nat}{x y:AV}{o:Oper}(a:o.dst≠some d):qK (upd T d x) o.dst y=upd (qK T o.dst y) d x:=by
 cases b:o.dst with
 | none=>rfl
 | some e=>exact yza (λh=>a (by rw[b,h])) x y
theorem Q3{o:Oper}{K K':Env->List Ob->Prop}(k:wj P T h o K)(b:∀T h,K T h->K' T h):wj P T h o K':=by
 unfold wj at*
 split
 ·rename_i x h' a;rw[a] at k;exact b _ _ k
 ·rename_i a
  rw[a] at k
  clear a
  generalize o.op=op at k⊢
  cases op<;>first
   | exact k.elim
   | skip
  rename_i c
  simp only at k⊢
  cases d:yf T c with
  | none=>rw[d] at k;exact k.elim
  | some q=>
    rw[d] at k
    exact k.mono λ_ _=>b _ _
theorem Qx{o:Oper}{run a:(Env->List Ob->Prop)->Env->List Ob->Prop}{K K':Env->List Ob->Prop}(k:xY ops o run K T h)(i:run K T h->a K' T h)(g:K (qK T o.dst (.v undef)) h->K' (qK T o.dst (.v undef)) h):xY ops o a K' T h:=by
 unfold xY at*
 cases c:o.guard with
 | none=>simp only[c] at k ⊢;exact i k
 | some q=>
   obtain⟨j,f⟩:=q
   simp only[c] at k⊢
   cases b:(ops[j]?).bind (·.dst) with
   | none=>simp only[b] at k
   | some d=>
     simp only[b] at k⊢
     split at k
     ·exact⟨λe=>i (k.1 e),λe=>g (k.2 e)⟩
     ·exact g k
     ·exact k
theorem zGa{b:List Ob}{o:Oper}{run a:(Env->List Ob->Prop)->Env->List Ob->Prop}{K K':Env->List Ob->Prop}(k:xY ops o run K T h)(l:run K T h->a K' T b)(i:K (qK T o.dst (.v undef)) h->K' (qK T o.dst (.v undef)) b):xY ops o a K' T b:=by
 unfold xY at*
 cases f:o.guard with
 | none=>simp only[f] at k ⊢;exact l k
 | some q=>
   obtain⟨j,g⟩:=q
   simp only[f] at k⊢
   cases c:(ops[j]?).bind (·.dst) with
   | none=>simp only[c] at k
   | some d=>
     simp only[c] at k⊢
     split at k
     ·exact⟨λe=>l (k.1 e),λe=>i (k.2 e)⟩
     ·exact i k
     ·exact k
theorem xG{o:Oper}{K K':Env->List Ob->Prop}(k:kU P ops o K T h)(a:∀T h,K T h->K' T h):kU P ops o K' T h:=
 Qx k (λk=>Q3 k a) (a _ _)
theorem xoa{id:Nat}{o:Oper}{K K':Env->List Ob->Prop}(k:Qw P id o K T h)(b:∀T h,K T h->K' T h):Qw P id o K' T h:=by
 unfold Qw at*
 split
 ·rename_i ob mk a;rw[a] at k;exact⟨k.1,b _ _ k.2⟩
 ·rename_i a;rw[a] at k;exact k
theorem yAa{d:Nat}{x:AV}{o:Oper}{K:Env->List Ob->Prop}(a:o.op.operands.toList.any (w8 d)=false)(b:o.dst≠some d):wj P (upd T d x) h o K=wj P T h o (λg f=>K (upd g d x) f):=by
 unfold wj
 rw[wv o.op a]
 split
 ·rw[Xm b]
 ·split
  ·rename_i c e
   rw[e] at a
   rw[(YB (P:=P) (h:=h) a).2]
   split
   ·simp only[Xm b]
   ·rfl
  ·rfl
theorem xpa{d:Nat}{x:AV}{o:Oper}{run:(Env->List Ob->Prop)->Env->List Ob->Prop}{K:Env->List Ob->Prop}(a:kD ops o d=false)(k:o.dst≠some d)(i:run K (upd T d x) h=run (λf c=>K (upd f d x) c) T h):xY ops o run K (upd T d x) h=xY ops o run (λf c=>K (upd f d x) c) T h:=by
 unfold kD at a
 rw[zQ] at a
 unfold xY
 cases l:o.guard with
 | none=>simp only[];exact i
 | some q=>
   obtain⟨j,g⟩:=q
   rw[l] at a
   simp only[]
   cases n:(ops[j]?).bind (·.dst) with
   | none=>rfl
   | some e=>
     have b:e≠d:=λh=>by
      have:=a.2
      simp[n,h] at this
     have m:upd T d x e=T e:=by simp[upd,b]
     simp only[m,i,Xm k]
theorem Q4{d:Nat}{x:AV}{o:Oper}{K:Env->List Ob->Prop}(a:kD ops o d=false)(b:o.dst≠some d):kU P ops o K (upd T d x) h=kU P ops o (λe c=>K (upd e d x) c) T h:=
 xpa a b (yAa (by unfold kD at a;rw[zQ] at a;exact a.1) b)
def Zj(P:Program)(ops:Array Oper)(T:Env)(h:List Ob)(o:Oper):Option AV:=match o.guard with
 | none=>(zW P T h o.op).map (·.1)
 | some (j,a)=>match (ops[j]?).bind (·.dst) with
   | some d=>match T d with
     | .v (.bool b)=>if b=a then(zW P T h o.op).map (·.1) else some (.v undef)
     | .v (.tuple _)=>some (.v undef)
     | _=>none
   | none=>none
theorem xqa{op:Op}(b:cls op<=1){x:AV}{h':List Ob}(a:zW P T h op=some (x,h')):h'=h:=by
 cases op<;>simp only[cls] at b<;>try (omega;done)
 case call c=>
  obtain⟨callee,args,d⟩:=c
  simp only[zW,Zn] at a
  split at a
  ·split at a
   ·obtain⟨_,_,_,e⟩:=xn a;exact e.symm
   ·cases a
  ·simp at b
  ·simp at b
  ·simp at b
  ·obtain⟨_,_,_,e⟩:=xn a;exact e.symm
  ·obtain⟨_,_,_,e⟩:=xn a;exact e.symm
  ·cases a
 case slice t y lo hi mx=>
  cases mx with
  | some m=>cases a
  | none=>
    simp only[zW] at a
    split at a
    ·simp only[Option.bind_eq_some_iff] at a
     obtain⟨_,_,_,_,_,_,a⟩:=a
     split at a
     ·injection a with a;injection a with _ a;exact a.symm
     ·cases a
    ·cases a
 case build t ps=>
  simp only[zW] at a
  split at a
  ·split at a
   ·simp only[Option.bind_eq_some_iff] at a
    obtain⟨_,_,a⟩:=a
    obtain⟨_,_,_,e⟩:=xn a;exact e.symm
   ·cases a
  ·split at a
   ·simp only[Option.bind_eq_some_iff] at a
    obtain⟨_,_,a⟩:=a
    obtain⟨_,_,_,e⟩:=xn a;exact e.symm
   ·cases a
  ·cases a
 case fieldAddr t y i=>
  simp only[zW] at a
  split at a
  ·simp only[Option.bind_eq_some_iff] at a
   obtain⟨_,_,a⟩:=a
   split at a
   ·split at a
    ·injection a with a;injection a with _ a;exact a.symm
    ·injection a with a;injection a with _ a;exact a.symm
    ·cases a
   ·cases a
  ·cases a
 case field t y i=>
  simp only[zW] at a
  split at a
  ·simp only[Option.bind_eq_some_iff] at a
   obtain⟨_,_,a⟩:=a
   split at a
   ·obtain⟨_,_,_,e⟩:=xn a;exact e.symm
   ·cases a
  ·cases a
 all_goals
  simp only[zW] at a
  (repeat' split at a)
 all_goals first
  | cases a;done
  | (injection a with a;injection a with _ a;exact a.symm)
  | (simp only[Option.map_eq_some_iff,Prod.mk.injEq] at a;obtain⟨_,_,_,e⟩:=a;exact e.symm)
end
