import Derived.Test.YtigdlmpjijhpaaaGreatBA
import Derived.Test.YtigdlmpjijhpaaaGreatB06
import Derived.Orders
set_option linter.all false
namespace Go.Proofs.YtigdlmpjijhpaaaGreat.Ax
open Go Go.RowKit
def cls:Op->Nat
 | .move _ | .assign _ | .pick .. | .build .. | .nilCheck _ | .unOp .. | .convert .. | .makeFunc .. | .fieldAddr .. | .extract .. | .field .. | .index .. =>0
 | .binOp _ _ _ y _=>if J7 y then 1 else 0
 | .load .. | .indexAddr .. | .slice .. | .lookup .. =>1
 | .call { callee:= .builtin .len, .. }=>1
 | .call { callee:= .builtin .max, .. } | .call { callee:= .builtin .min, .. }=>0
 | .alloc .. | .box .. | .buildSlice .. | .makeSlice .. | .makeMap .. =>3
 | _=>2
def y7(d:Nat):Operand->Bool
 | .tmp t=>t==d
 | _=>false
def vj(ops:Array Oper)(o:Oper)(d:Nat):Bool:=
 (o.op.operands.toList.any (y7 d)) || (match o.guard with
  | some (j,_)=>(ops[j]?).bind (·.dst)==some d
  | none=>false)
def xCa(ops:Array Oper)(x y:Oper):Bool:=
 (match x.dst with
  | some d=> !vj ops y d && y.dst != some d
  | none=>true) && (match y.dst with
  | some d=> !vj ops x d
  | none=>true)
def kN(ops:Array Oper)(o:Oper)(run:(Env->List Ob->Prop)->Env->List Ob->Prop)(K:Env->List Ob->Prop)(T:Env)(h:List Ob):Prop:=match o.guard with
 | none=>run K T h
 | some (j,a)=>match (ops[j]?).bind (·.dst) with
   | some d=>match T d with
     | .v (.bool b)=>(b=a->run K T h)/\(b≠a->K (qW T o.dst (.v undef)) h)
     | .v (.tuple _)=>K (qW T o.dst (.v undef)) h
     | _=>False
   | none=>False
def Joa(P:Program)(o:Oper)(K:Env->List Ob->Prop)(T:Env)(h:List Ob):Prop:=wV P T h o K
def vD(P:Program)(ops:Array Oper)(o:Oper)(K:Env->List Ob->Prop)(T:Env)(h:List Ob):Prop:=kN ops o (Joa P o) K T h
def Jw(P:Program)(id:Nat)(o:Oper)(K:Env->List Ob->Prop)(T:Env)(h:List Ob):Prop:=match jA P T o.op with
 | some (ob,mk)=>h[id]? =some .res/\K (qW T o.dst (mk id)) (h.set id ob)
 | none=>False
def Yq(P:Program)(ops:Array Oper)(id:Nat)(o:Oper)(K:Env->List Ob->Prop)(T:Env)(h:List Ob):Prop:=kN ops o (Jw P id o) K T h
section
variable {P:Program} {ops:Array Oper} {T:Env} {h:List Ob}
theorem jn{d:Nat}{x:AV}{y:Operand}(a:y7 d y=false):ev (upd T d x) y=ev T y:=by
 cases y with
 | tmp t=>simp only[y7,beq_eq_false_iff_ne,ne_eq] at a;simp[ev,upd,a]
 | _=>rfl
theorem Xa{d:Nat}{x:AV}:∀(l:List Operand),l.any (y7 d)=false->evl (upd T d x) l=evl T l
 | [],_=>rfl
 | y::l,a=>by
   simp only[List.any_cons,zY] at a
   simp only[evl,jn a.1,Xa l a.2]
theorem jya{d:Nat}{x:AV}:∀(l:List (Nat × Operand)),(l.map (·.2)).any (y7 d)=false->evs (upd T d x) l=evs T l
 | [],_=>rfl
 | (i,y)::l,a=>by
   simp only[List.map_cons,List.any_cons,zY] at a
   simp only[evs,jn a.1,jya l a.2]
theorem qya{d:Nat}{x:AV}{n:Int}:∀(y:Option Operand),y.toList.any (y7 d)=false->ZU (upd T d x) n y=ZU T n y
 | none,_=>rfl
 | some y,a=>by
   have a:y7 d y=false:=by simpa using a
   simp only[ZU,jn a]
theorem qza{d:Nat}{x:AV}{c:Call}(b:c.operands.toList.any (y7 d)=false):Qc P (upd T d x) h c=Qc P T h c/\Zd (upd T d x) c=Zd T c:=by
 obtain⟨callee,args,e⟩:=c
 obtain⟨args⟩:=args
 obtain⟨e⟩:=e
 have a:args.any (y7 d)=false:=by
  simp only[Call.operands] at b
  cases callee<;>simp only[Array.toList_append,List.any_append,zY] at b<;>exact b.2
 have g:=Xa (T:=T) (x:=x) args a
 constructor
 ·unfold Qc
  simp only
  split
  ·simp only[List.any_cons,zY] at a;simp only[jn a.1]
  ·simp only[List.any_cons,zY] at a;simp only[jn a.1,jn a.2.1]
  ·simp only[List.any_cons,zY] at a;simp only[jn a.1]
  ·simp only[List.any_cons,zY] at a;simp only[jn a.1,jn a.2.1]
  ·simp only[List.any_cons,zY] at a;simp only[jn a.1,Xa _ a.2]
  ·simp only[List.any_cons,zY] at a;simp only[jn a.1,Xa _ a.2]
  ·rfl
 ·unfold Zd
  simp only
  split
  ·rename_i y
   simp only[Call.operands,Array.toList_append,List.any_append,zY] at b
   have f:y7 d y=false:=by simpa using b.1
   simp only[jn f,g]
  ·rfl
theorem XV{d:Nat}{x:AV}(op:Op)(a:op.operands.toList.any (y7 d)=false):jA P (upd T d x) op=jA P T op:=by
 cases op<;>simp only[Op.operands,List.any_cons,List.any_nil,Bool.or_false,zY,Array.toList_append,List.any_append] at a<;>try (rfl;done)
 case box t y=>simp only[jA,jn a]
 case buildSlice t n ps=>simp only[jA,jya ps.toList a]
 case makeSlice t l c=>simp only[jA,jn a.1,jn a.2]
 case makeMap t r=>cases r<;>rfl
theorem ye{d:Nat}{x:AV}(op:Op)(e:op.operands.toList.any (y7 d)=false):qc P (upd T d x) h op=qc P T h op:=by
 have g:=XV (P:=P) (T:=T) (x:=x) op e
 have j:=e
 cases op<;>simp only[Op.operands,List.any_cons,List.any_nil,Bool.or_false,zY,Array.toList_append,List.any_append] at e<;>try (rfl;done)
 case move y=>simp only[qc,jn e]
 case assign y=>simp only[qc,jn e]
 case pick a b c=>simp only[qc,jn e.1,jn e.2.1,jn e.2.2]
 case box t y=>simp only[qc,g]
 case build t ps=>simp only[qc,jya ps.toList e]
 case buildSlice t n ps=>simp only[qc,g]
 case makeSlice t l c=>simp only[qc,g]
 case makeMap t r=>simp only[qc,g]
 case load t y=>simp only[qc,jn e]
 case store t y z=>simp only[qc,jn e.1,jn e.2]
 case nilCheck y=>simp only[qc,jn e]
 case binOp op t y z _=>simp only[qc,jn e.1,jn e.2]
 case unOp op t y=>simp only[qc,jn e]
 case convert s t y=>simp only[qc,jn e]
 case makeFunc f p q=>simp only[qc,Xa p.toList e.1,Xa q.toList e.2]
 case fieldAddr t y i=>simp only[qc,jn e]
 case field t y i=>simp only[qc,jn e]
 case indexAddr t y i=>simp only[qc,jn e.1,jn e.2]
 case index t y i=>simp only[qc,jn e.1,jn e.2]
 case extract y i=>simp only[qc,jn e]
 case insert t m k v=>simp only[qc,jn e.1,jn e.2.1,jn e.2.2]
 case lookup t m k ok=>simp only[qc,jn e.1,jn e.2]
 case slice t y lo hi mx=>
  cases mx with
  | some m=>rfl
  | none=>
    have o:y7 d y=false/\lo.toList.any (y7 d)=false/\hi.toList.any (y7 d)=false:=by
     simp only[Op.operands] at j
     cases lo<;>cases hi<;>simp_all
    obtain⟨o,u,w⟩:=o
    simp only[qc,jn o,qya lo u,qya hi w]
 case call c=>exact(qza (h:=h) e).1
theorem Jpa{d e:Nat}(a:d≠e)(x y:AV):upd (upd T d x) e y=upd (upd T e y) d x:=by
 funext i
 simp only[upd]
 split
 ·rename_i hi;subst hi;rw[if_neg (λh=>a h.symm)]
 ·rfl
theorem Ky{d:Nat}{x y:AV}{o:Oper}(a:o.dst≠some d):qW (upd T d x) o.dst y=upd (qW T o.dst y) d x:=by
 cases b:o.dst with
 | none=>rfl
 | some e=>exact Jpa (λh=>a (by rw[b,h])) x y
theorem Xb{o:Oper}{K K':Env->List Ob->Prop}(k:wV P T h o K)(d:∀T h,K T h->K' T h):wV P T h o K':=by
 unfold wV at*
 split
 ·rename_i x h' a;rw[a] at k;exact d _ _ k
 ·rename_i a
  rw[a] at k
  clear a
  generalize o.op=op at k⊢
  cases op<;>first
   | exact k.elim
   | skip
  rename_i c
  simp only at k⊢
  cases b:Zd T c with
  | none=>rw[b] at k;exact k.elim
  | some q=>
    rw[b] at k
    exact k.mono λ_ _=>d _ _
theorem Jx{o:Oper}{run a:(Env->List Ob->Prop)->Env->List Ob->Prop}{K K':Env->List Ob->Prop}(k:kN ops o run K T h)(b:run K T h->a K' T h)(i:K (qW T o.dst (.v undef)) h->K' (qW T o.dst (.v undef)) h):kN ops o a K' T h:=by
 unfold kN at*
 cases c:o.guard with
 | none=>simp only[c] at k ⊢;exact b k
 | some q=>
   obtain⟨j,f⟩:=q
   simp only[c] at k⊢
   cases g:(ops[j]?).bind (·.dst) with
   | none=>simp only[g] at k
   | some d=>
     simp only[g] at k⊢
     split at k
     ·exact⟨λe=>b (k.1 e),λe=>i (k.2 e)⟩
     ·exact i k
     ·exact k
theorem jza{b:List Ob}{o:Oper}{run a:(Env->List Ob->Prop)->Env->List Ob->Prop}{K K':Env->List Ob->Prop}(k:kN ops o run K T h)(c:run K T h->a K' T b)(l:K (qW T o.dst (.v undef)) h->K' (qW T o.dst (.v undef)) b):kN ops o a K' T b:=by
 unfold kN at*
 cases f:o.guard with
 | none=>simp only[f] at k ⊢;exact c k
 | some q=>
   obtain⟨j,g⟩:=q
   simp only[f] at k⊢
   cases i:(ops[j]?).bind (·.dst) with
   | none=>simp only[i] at k
   | some d=>
     simp only[i] at k⊢
     split at k
     ·exact⟨λe=>c (k.1 e),λe=>l (k.2 e)⟩
     ·exact l k
     ·exact k
theorem kp{o:Oper}{K K':Env->List Ob->Prop}(k:vD P ops o K T h)(a:∀T h,K T h->K' T h):vD P ops o K' T h:=
 Jx k (λk=>Xb k a) (a _ _)
theorem vDa{id:Nat}{o:Oper}{K K':Env->List Ob->Prop}(k:Jw P id o K T h)(b:∀T h,K T h->K' T h):Jw P id o K' T h:=by
 unfold Jw at*
 split
 ·rename_i ob mk a;rw[a] at k;exact⟨k.1,b _ _ k.2⟩
 ·rename_i a;rw[a] at k;exact k
theorem Jqa{d:Nat}{x:AV}{o:Oper}{K:Env->List Ob->Prop}(a:o.op.operands.toList.any (y7 d)=false)(b:o.dst≠some d):wV P (upd T d x) h o K=wV P T h o (λf e=>K (upd f d x) e):=by
 unfold wV
 rw[ye o.op a]
 split
 ·rw[Ky b]
 ·split
  ·rename_i c g
   rw[g] at a
   rw[(qza (P:=P) (h:=h) a).2]
   split
   ·simp only[Ky b]
   ·rfl
  ·rfl
theorem vEa{d:Nat}{x:AV}{o:Oper}{run:(Env->List Ob->Prop)->Env->List Ob->Prop}{K:Env->List Ob->Prop}(a:vj ops o d=false)(m:o.dst≠some d)(g:run K (upd T d x) h=run (λf b=>K (upd f d x) b) T h):kN ops o run K (upd T d x) h=kN ops o run (λf b=>K (upd f d x) b) T h:=by
 unfold vj at a
 rw[zY] at a
 unfold kN
 cases l:o.guard with
 | none=>simp only[];exact g
 | some q=>
   obtain⟨j,i⟩:=q
   rw[l] at a
   simp only[]
   cases k:(ops[j]?).bind (·.dst) with
   | none=>rfl
   | some e=>
     have c:e≠d:=λh=>by
      have:=a.2
      simp[k,h] at this
     have n:upd T d x e=T e:=by simp[upd,c]
     simp only[n,g,Ky m]
theorem Xc{d:Nat}{x:AV}{o:Oper}{K:Env->List Ob->Prop}(a:vj ops o d=false)(b:o.dst≠some d):vD P ops o K (upd T d x) h=vD P ops o (λc e=>K (upd c d x) e) T h:=
 vEa a b (Jqa (by unfold vj at a;rw[zY] at a;exact a.1) b)
def Z6(P:Program)(ops:Array Oper)(T:Env)(h:List Ob)(o:Oper):Option AV:=match o.guard with
 | none=>(qc P T h o.op).map (·.1)
 | some (j,a)=>match (ops[j]?).bind (·.dst) with
   | some d=>match T d with
     | .v (.bool b)=>if b=a then(qc P T h o.op).map (·.1) else some (.v undef)
     | .v (.tuple _)=>some (.v undef)
     | _=>none
   | none=>none
theorem vFa{op:Op}(b:cls op<=1){x:AV}{h':List Ob}(a:qc P T h op=some (x,h')):h'=h:=by
 cases op<;>simp only[cls] at b<;>try (omega;done)
 case call c=>
  obtain⟨callee,args,d⟩:=c
  simp only[qc,Qc] at a
  split at a
  ·split at a
   ·obtain⟨_,_,_,e⟩:=xH a;exact e.symm
   ·cases a
  ·simp at b
  ·simp at b
  ·simp at b
  ·obtain⟨_,_,_,e⟩:=xH a;exact e.symm
  ·obtain⟨_,_,_,e⟩:=xH a;exact e.symm
  ·cases a
 case slice t y lo hi mx=>
  cases mx with
  | some m=>cases a
  | none=>
    simp only[qc] at a
    split at a
    ·simp only[Option.bind_eq_some_iff] at a
     obtain⟨_,_,_,_,_,_,a⟩:=a
     split at a
     ·injection a with a;injection a with _ a;exact a.symm
     ·cases a
    ·cases a
 case build t ps=>
  simp only[qc] at a
  split at a
  ·split at a
   ·simp only[Option.bind_eq_some_iff] at a
    obtain⟨_,_,a⟩:=a
    obtain⟨_,_,_,e⟩:=xH a;exact e.symm
   ·cases a
  ·split at a
   ·simp only[Option.bind_eq_some_iff] at a
    obtain⟨_,_,a⟩:=a
    obtain⟨_,_,_,e⟩:=xH a;exact e.symm
   ·cases a
  ·cases a
 case fieldAddr t y i=>
  simp only[qc] at a
  split at a
  ·simp only[Option.bind_eq_some_iff] at a
   obtain⟨_,_,a⟩:=a
   split at a
   ·split at a
    ·injection a with a;injection a with _ a;exact a.symm
    ·injection a with a;injection a with _ a;exact a.symm
    ·cases a
   ·cases a
  ·cases a
 case field t y i=>
  simp only[qc] at a
  split at a
  ·simp only[Option.bind_eq_some_iff] at a
   obtain⟨_,_,a⟩:=a
   split at a
   ·obtain⟨_,_,_,e⟩:=xH a;exact e.symm
   ·cases a
  ·cases a
 all_goals
  simp only[qc] at a
  (repeat' split at a)
 all_goals first
  | cases a;done
  | (injection a with a;injection a with _ a;exact a.symm)
  | (simp only[Option.map_eq_some_iff,Prod.mk.injEq] at a;obtain⟨_,_,_,e⟩:=a;exact e.symm)
end
