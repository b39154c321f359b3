import Derived.Test.YtigdlmpjijhpaaaGreatKA
import Derived.Test.YtigdlmpjijhpaaaGreatK06
import Derived.Orders
set_option linter.all false
namespace Go.Proofs.YtigdlmpjijhpaaaGreat.Ax
open Go Go.RowKit
def cls:Op->Nat
 | .move _ | .assign _ | .pick .. | .build .. | .nilCheck _ | .unOp .. | .convert .. | .makeFunc .. | .fieldAddr .. | .extract .. | .field .. | .index .. =>0
 | .binOp _ _ _ y _=>if Xr y then 1 else 0
 | .load .. | .indexAddr .. | .slice .. | .lookup .. =>1
 | .call { callee:= .builtin .len, .. }=>1
 | .call { callee:= .builtin .max, .. } | .call { callee:= .builtin .min, .. }=>0
 | .alloc .. | .box .. | .buildSlice .. | .makeSlice .. | .makeMap .. =>3
 | _=>2
def Zi(d:Nat):Operand->Bool
 | .tmp t=>t==d
 | _=>false
def vz(ops:Array Oper)(o:Oper)(d:Nat):Bool:=
 (o.op.operands.toList.any (Zi d)) || (match o.guard with
  | some (j,_)=>(ops[j]?).bind (·.dst)==some d
  | none=>false)
def xOa(ops:Array Oper)(x y:Oper):Bool:=
 (match x.dst with
  | some d=> !vz ops y d && y.dst != some d
  | none=>true) && (match y.dst with
  | some d=> !vz ops x d
  | none=>true)
def kW(ops:Array Oper)(o:Oper)(run:(Env->List Ob->Prop)->Env->List Ob->Prop)(K:Env->List Ob->Prop)(T:Env)(h:List Ob):Prop:=match o.guard with
 | none=>run K T h
 | some (j,want)=>match (ops[j]?).bind (·.dst) with
   | some d=>match T d with
     | .v (.bool b)=>(b=want->run K T h)/\(b≠want->K (jc T o.dst (.v undef)) h)
     | .v (.tuple _)=>K (jc T o.dst (.v undef)) h
     | _=>False
   | none=>False
def JUa(P:Program)(o:Oper)(K:Env->List Ob->Prop)(T:Env)(h:List Ob):Prop:=yl P T h o K
def vQ(P:Program)(ops:Array Oper)(o:Oper)(K:Env->List Ob->Prop)(T:Env)(h:List Ob):Prop:=kW ops o (JUa P o) K T h
def JR(P:Program)(id:Nat)(o:Oper)(K:Env->List Ob->Prop)(T:Env)(h:List Ob):Prop:=match jG P T o.op with
 | some (ob,mk)=>h[id]? =some .res/\K (jc T o.dst (mk id)) (h.set id ob)
 | none=>False
def YD(P:Program)(ops:Array Oper)(id:Nat)(o:Oper)(K:Env->List Ob->Prop)(T:Env)(h:List Ob):Prop:=kW ops o (JR P id o) K T h
section
variable {P:Program} {ops:Array Oper} {T:Env} {h:List Ob}
theorem jp{d:Nat}{x:AV}{y:Operand}(a:Zi d y=false):ev (upd T d x) y=ev T y:=by
 cases y with
 | tmp t=>simp only[Zi,beq_eq_false_iff_ne,ne_eq] at a;simp[ev,upd,a]
 | _=>rfl
theorem Xu{d:Nat}{x:AV}:∀(l:List Operand),l.any (Zi d)=false->evl (upd T d x) l=evl T l
 | [],_=>rfl
 | y::l,a=>by
   simp only[List.any_cons,zY] at a
   simp only[evl,jp a.1,Xu l a.2]
theorem jFa{d:Nat}{x:AV}:∀(l:List (Nat × Operand)),(l.map (·.2)).any (Zi d)=false->evs (upd T d x) l=evs T l
 | [],_=>rfl
 | (i,y)::l,a=>by
   simp only[List.map_cons,List.any_cons,zY] at a
   simp only[evs,jp a.1,jFa l a.2]
theorem qya{d:Nat}{x:AV}{n:Int}:∀(y:Option Operand),y.toList.any (Zi d)=false->Z3 (upd T d x) n y=Z3 T n y
 | none,_=>rfl
 | some y,a=>by
   have a:Zi d y=false:=by simpa using a
   simp only[Z3,jp a]
theorem qza{d:Nat}{x:AV}{c:Call}(b:c.operands.toList.any (Zi d)=false):Qu P (upd T d x) h c=Qu P T h c/\Zn (upd T d x) c=Zn T c:=by
 obtain⟨callee,args,e⟩:=c
 obtain⟨args⟩:=args
 obtain⟨e⟩:=e
 have a:args.any (Zi d)=false:=by
  simp only[Call.operands] at b
  cases callee<;>simp only[Array.toList_append,List.any_append,zY] at b<;>exact b.2
 have f:=Xu (T:=T) (x:=x) args a
 constructor
 ·unfold Qu
  simp only
  split
  ·simp only[List.any_cons,zY] at a;simp only[jp a.1]
  ·simp only[List.any_cons,zY] at a;simp only[jp a.1,jp a.2.1]
  ·simp only[List.any_cons,zY] at a;simp only[jp a.1]
  ·simp only[List.any_cons,zY] at a;simp only[jp a.1,jp a.2.1]
  ·simp only[List.any_cons,zY] at a;simp only[jp a.1,Xu _ a.2]
  ·simp only[List.any_cons,zY] at a;simp only[jp a.1,Xu _ a.2]
  ·rfl
 ·unfold Zn
  simp only
  split
  ·rename_i y
   simp only[Call.operands,Array.toList_append,List.any_append,zY] at b
   have g:Zi d y=false:=by simpa using b.1
   simp only[jp g,f]
  ·rfl
theorem Kg{d:Nat}{x:AV}(op:Op)(a:op.operands.toList.any (Zi d)=false):jG P (upd T d x) op=jG P T op:=by
 cases op<;>simp only[Op.operands,List.any_cons,List.any_nil,Bool.or_false,zY,Array.toList_append,List.any_append] at a<;>try (rfl;done)
 case box t y=>simp only[jG,jp a]
 case buildSlice t n ps=>simp only[jG,jFa ps.toList a]
 case makeSlice t l c=>simp only[jG,jp a.1,jp a.2]
 case makeMap t r=>cases r<;>rfl
theorem yw{d:Nat}{x:AV}(op:Op)(e:op.operands.toList.any (Zi d)=false):qh P (upd T d x) h op=qh P T h op:=by
 have g:=Kg (P:=P) (T:=T) (x:=x) op e
 have j:=e
 cases op<;>simp only[Op.operands,List.any_cons,List.any_nil,Bool.or_false,zY,Array.toList_append,List.any_append] at e<;>try (rfl;done)
 case move y=>simp only[qh,jp e]
 case assign y=>simp only[qh,jp e]
 case pick a b c=>simp only[qh,jp e.1,jp e.2.1,jp e.2.2]
 case box t y=>simp only[qh,g]
 case build t ps=>simp only[qh,jFa ps.toList e]
 case buildSlice t n ps=>simp only[qh,g]
 case makeSlice t l c=>simp only[qh,g]
 case makeMap t r=>simp only[qh,g]
 case load t y=>simp only[qh,jp e]
 case store t y z=>simp only[qh,jp e.1,jp e.2]
 case nilCheck y=>simp only[qh,jp e]
 case binOp op t y z _=>simp only[qh,jp e.1,jp e.2]
 case unOp op t y=>simp only[qh,jp e]
 case convert s t y=>simp only[qh,jp e]
 case makeFunc f p q=>simp only[qh,Xu p.toList e.1,Xu q.toList e.2]
 case fieldAddr t y i=>simp only[qh,jp e]
 case field t y i=>simp only[qh,jp e]
 case indexAddr t y i=>simp only[qh,jp e.1,jp e.2]
 case index t y i=>simp only[qh,jp e.1,jp e.2]
 case extract y i=>simp only[qh,jp e]
 case insert t m k v=>simp only[qh,jp e.1,jp e.2.1,jp e.2.2]
 case lookup t m k ok=>simp only[qh,jp e.1,jp e.2]
 case slice t y lo hi mx=>
  cases mx with
  | some m=>rfl
  | none=>
    have o:Zi d y=false/\lo.toList.any (Zi d)=false/\hi.toList.any (Zi d)=false:=by
     simp only[Op.operands] at j
     cases lo<;>cases hi<;>simp_all
    obtain⟨o,w,u⟩:=o
    simp only[qh,jp o,qya lo w,qya hi u]
 case call c=>exact(qza (h:=h) e).1
theorem JVa{d e:Nat}(a:d≠e)(x y:AV):upd (upd T d x) e y=upd (upd T e y) d x:=by
 funext i
 simp only[upd]
 split
 ·rename_i hi;subst hi;rw[if_neg (λh=>a h.symm)]
 ·rfl
theorem KS{d:Nat}{x y:AV}{o:Oper}(b:o.dst≠some d):jc (upd T d x) o.dst y=upd (jc T o.dst y) d x:=by
 cases a:o.dst with
 | none=>rfl
 | some e=>exact JVa (λh=>b (by rw[a,h])) x y
theorem Xv{o:Oper}{K K':Env->List Ob->Prop}(k:yl P T h o K)(b:∀T h,K T h->K' T h):yl P T h o K':=by
 unfold yl at*
 split
 ·rename_i x h' a;rw[a] at k;exact b _ _ k
 ·rename_i a
  rw[a] at k
  clear a
  generalize o.op=op at k⊢
  cases op<;>first
   | exact k.elim
   | skip
  rename_i c
  simp only at k⊢
  cases d:Zn T c with
  | none=>rw[d] at k;exact k.elim
  | some q=>
    rw[d] at k
    exact k.mono λ_ _=>b _ _
theorem JS{o:Oper}{run a:(Env->List Ob->Prop)->Env->List Ob->Prop}{K K':Env->List Ob->Prop}(k:kW ops o run K T h)(c:run K T h->a K' T h)(f:K (jc T o.dst (.v undef)) h->K' (jc T o.dst (.v undef)) h):kW ops o a K' T h:=by
 unfold kW at*
 cases g:o.guard with
 | none=>simp only[g] at k ⊢;exact c k
 | some q=>
   obtain⟨j,want⟩:=q
   simp only[g] at k⊢
   cases b:(ops[j]?).bind (·.dst) with
   | none=>simp only[b] at k
   | some d=>
     simp only[b] at k⊢
     split at k
     ·exact⟨λe=>c (k.1 e),λe=>f (k.2 e)⟩
     ·exact f k
     ·exact k
theorem jGa{b:List Ob}{o:Oper}{run a:(Env->List Ob->Prop)->Env->List Ob->Prop}{K K':Env->List Ob->Prop}(k:kW ops o run K T h)(f:run K T h->a K' T b)(g:K (jc T o.dst (.v undef)) h->K' (jc T o.dst (.v undef)) b):kW ops o a K' T b:=by
 unfold kW at*
 cases i:o.guard with
 | none=>simp only[i] at k ⊢;exact f k
 | some q=>
   obtain⟨j,want⟩:=q
   simp only[i] at k⊢
   cases c:(ops[j]?).bind (·.dst) with
   | none=>simp only[c] at k
   | some d=>
     simp only[c] at k⊢
     split at k
     ·exact⟨λe=>f (k.1 e),λe=>g (k.2 e)⟩
     ·exact g k
     ·exact k
theorem kF{o:Oper}{K K':Env->List Ob->Prop}(k:vQ P ops o K T h)(a:∀T h,K T h->K' T h):vQ P ops o K' T h:=
 JS k (λk=>Xv k a) (a _ _)
theorem vNa{id:Nat}{o:Oper}{K K':Env->List Ob->Prop}(k:JR P id o K T h)(b:∀T h,K T h->K' T h):JR P id o K' T h:=by
 unfold JR at*
 split
 ·rename_i ob mk a;rw[a] at k;exact⟨k.1,b _ _ k.2⟩
 ·rename_i a;rw[a] at k;exact k
theorem JWa{d:Nat}{x:AV}{o:Oper}{K:Env->List Ob->Prop}(a:o.op.operands.toList.any (Zi d)=false)(b:o.dst≠some d):yl P (upd T d x) h o K=yl P T h o (λf g=>K (upd f d x) g):=by
 unfold yl
 rw[yw o.op a]
 split
 ·rw[KS b]
 ·split
  ·rename_i c e
   rw[e] at a
   rw[(qza (P:=P) (h:=h) a).2]
   split
   ·simp only[KS b]
   ·rfl
  ·rfl
theorem vOa{d:Nat}{x:AV}{o:Oper}{run:(Env->List Ob->Prop)->Env->List Ob->Prop}{K:Env->List Ob->Prop}(a:vz ops o d=false)(i:o.dst≠some d)(g:run K (upd T d x) h=run (λb f=>K (upd b d x) f) T h):kW ops o run K (upd T d x) h=kW ops o run (λb f=>K (upd b d x) f) T h:=by
 unfold vz at a
 rw[zY] at a
 unfold kW
 cases l:o.guard with
 | none=>simp only[];exact g
 | some q=>
   obtain⟨j,want⟩:=q
   rw[l] at a
   simp only[]
   cases k:(ops[j]?).bind (·.dst) with
   | none=>rfl
   | some e=>
     have c:e≠d:=λh=>by
      have:=a.2
      simp[k,h] at this
     have m:upd T d x e=T e:=by simp[upd,c]
     simp only[m,g,KS i]
theorem Xw{d:Nat}{x:AV}{o:Oper}{K:Env->List Ob->Prop}(a:vz ops o d=false)(b:o.dst≠some d):vQ P ops o K (upd T d x) h=vQ P ops o (λc e=>K (upd c d x) e) T h:=
 vOa a b (JWa (by unfold vz at a;rw[zY] at a;exact a.1) b)
def Qw(P:Program)(ops:Array Oper)(T:Env)(h:List Ob)(o:Oper):Option AV:=match o.guard with
 | none=>(qh P T h o.op).map (·.1)
 | some (j,want)=>match (ops[j]?).bind (·.dst) with
   | some d=>match T d with
     | .v (.bool b)=>if b=want then(qh P T h o.op).map (·.1) else some (.v undef)
     | .v (.tuple _)=>some (.v undef)
     | _=>none
   | none=>none
theorem vPa{op:Op}(b:cls op<=1){x:AV}{h':List Ob}(a:qh P T h op=some (x,h')):h'=h:=by
 cases op<;>simp only[cls] at b<;>try (omega;done)
 case call c=>
  obtain⟨callee,args,d⟩:=c
  simp only[qh,Qu] at a
  split at a
  ·split at a
   ·obtain⟨_,_,_,e⟩:=xO a;exact e.symm
   ·cases a
  ·simp at b
  ·simp at b
  ·simp at b
  ·obtain⟨_,_,_,e⟩:=xO a;exact e.symm
  ·obtain⟨_,_,_,e⟩:=xO a;exact e.symm
  ·cases a
 case slice t y lo hi mx=>
  cases mx with
  | some m=>cases a
  | none=>
    simp only[qh] at a
    split at a
    ·simp only[Option.bind_eq_some_iff] at a
     obtain⟨_,_,_,_,_,_,a⟩:=a
     split at a
     ·injection a with a;injection a with _ a;exact a.symm
     ·cases a
    ·cases a
 case build t ps=>
  simp only[qh] at a
  split at a
  ·split at a
   ·simp only[Option.bind_eq_some_iff] at a
    obtain⟨_,_,a⟩:=a
    obtain⟨_,_,_,e⟩:=xO a;exact e.symm
   ·cases a
  ·split at a
   ·simp only[Option.bind_eq_some_iff] at a
    obtain⟨_,_,a⟩:=a
    obtain⟨_,_,_,e⟩:=xO a;exact e.symm
   ·cases a
  ·cases a
 case fieldAddr t y i=>
  simp only[qh] at a
  split at a
  ·simp only[Option.bind_eq_some_iff] at a
   obtain⟨_,_,a⟩:=a
   split at a
   ·split at a
    ·injection a with a;injection a with _ a;exact a.symm
    ·injection a with a;injection a with _ a;exact a.symm
    ·cases a
   ·cases a
  ·cases a
 case field t y i=>
  simp only[qh] at a
  split at a
  ·simp only[Option.bind_eq_some_iff] at a
   obtain⟨_,_,a⟩:=a
   split at a
   ·obtain⟨_,_,_,e⟩:=xO a;exact e.symm
   ·cases a
  ·cases a
 all_goals
  simp only[qh] at a
  (repeat' split at a)
 all_goals first
  | cases a;done
  | (injection a with a;injection a with _ a;exact a.symm)
  | (simp only[Option.map_eq_some_iff,Prod.mk.injEq] at a;obtain⟨_,_,_,e⟩:=a;exact e.symm)
end
