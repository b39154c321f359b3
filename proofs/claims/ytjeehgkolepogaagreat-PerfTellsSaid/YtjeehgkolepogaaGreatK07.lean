import Derived.Test.YtjeehgkolepogaaGreatK06
import Derived.Orders
set_option linter.all false
namespace Go.Proofs.YtjeehgkolepogaaGreat.Ax
open Go Go.RowKit
def cls:Op->Nat
 | .move _ | .assign _ | .pick .. | .build .. | .nilCheck _ | .unOp .. | .convert .. | .makeFunc .. | .fieldAddr .. | .extract .. | .field .. | .index .. =>0
 | .binOp _ _ _ y _=>if Zb y then 1 else 0
 | .load .. | .indexAddr .. | .slice .. | .lookup .. =>1
 | .call { callee:= .builtin .len, .. }=>1
 | .call { callee:= .builtin .max, .. } | .call { callee:= .builtin .min, .. }=>0
 | .alloc .. | .box .. | .buildSlice .. | .makeSlice .. | .makeMap .. =>3
 | _=>2
def vR(d:Nat):Operand->Bool
 | .tmp t=>t==d
 | _=>false
def xz(ops:Array Oper)(o:Oper)(d:Nat):Bool:=
 (o.op.operands.toList.any (vR d)) || (match o.guard with
  | some (j,_)=>(ops[j]?).bind (·.dst)==some d
  | none=>false)
def Vy(ops:Array Oper)(x y:Oper):Bool:=
 (match x.dst with
  | some d=> !xz ops y d && y.dst != some d
  | none=>true) && (match y.dst with
  | some d=> !xz ops x d
  | none=>true)
def xl(ops:Array Oper)(o:Oper)(run:(Env->List Ob->Prop)->Env->List Ob->Prop)(K:Env->List Ob->Prop)(T:Env)(h:List Ob):Prop:=match o.guard with
 | none=>run K T h
 | some (j,a)=>match (ops[j]?).bind (·.dst) with
   | some d=>match T d with
     | .v (.bool b)=>(b=a->run K T h)/\(b≠a->K (qG T o.dst (.v undef)) h)
     | .v (.tuple _)=>K (qG T o.dst (.v undef)) h
     | _=>False
   | none=>False
def q8a(P:Program)(o:Oper)(K:Env->List Ob->Prop)(T:Env)(h:List Ob):Prop:=vf P T h o K
def xM(P:Program)(ops:Array Oper)(o:Oper)(K:Env->List Ob->Prop)(T:Env)(h:List Ob):Prop:=xl ops o (q8a P o) K T h
def yN(P:Program)(id:Nat)(o:Oper)(K:Env->List Ob->Prop)(T:Env)(h:List Ob):Prop:=match ji P T o.op with
 | some (ob,mk)=>h[id]? =some .res/\K (qG T o.dst (mk id)) (h.set id ob)
 | none=>False
def JE(P:Program)(ops:Array Oper)(id:Nat)(o:Oper)(K:Env->List Ob->Prop)(T:Env)(h:List Ob):Prop:=xl ops o (yN P id o) K T h
section
variable {P:Program} {ops:Array Oper} {T:Env} {h:List Ob}
def qH{d:Nat}{x:AV}{y:Operand}(a:vR d y=false):ev (upd T d x) y=ev T y:=by
 cases y with
 | tmp t=>simp only[vR,beq_eq_false_iff_ne,ne_eq] at a;simp[ev,upd,a]
 | _=>rfl
def Zd{d:Nat}{x:AV}:∀(l:List Operand),l.any (vR d)=false->evl (upd T d x) l=evl T l
 | [],_=>rfl
 | y::l,a=>by
   simp only[List.any_cons,zU] at a;simp only[evl,qH a.1,Zd l a.2]
def KG{d:Nat}{x:AV}:∀(l:List (Nat × Operand)),(l.map (·.2)).any (vR d)=false->evs (upd T d x) l=evs T l
 | [],_=>rfl
 | (i,y)::l,a=>by
   simp only[List.map_cons,List.any_cons,zU] at a;simp only[evs,qH a.1,KG l a.2]
def XQ{d:Nat}{x:AV}{n:Int}:∀(y:Option Operand),y.toList.any (vR d)=false->wC (upd T d x) n y=wC T n y
 | none,_=>rfl
 | some y,a=>by
   have a:vR d y=false:=(by simpa using a);simp only[wC,qH a]
def XR{d:Nat}{x:AV}{c:Call}(b:c.operands.toList.any (vR d)=false):wY P (upd T d x) h c=wY P T h c/\vS (upd T d x) c=vS T c:=by
 obtain⟨callee,args,e⟩:=c;obtain⟨args⟩:=args;obtain⟨e⟩:=e
 have a:args.any (vR d)=false:=by
  simp only[Call.operands] at b;cases callee<;>simp only[Array.toList_append,List.any_append,zU] at b<;>exact b.2
 have f:=Zd (T:=T) (x:=x) args a;constructor
 ·unfold wY;simp only;split
  ·simp only[List.any_cons,zU] at a;simp only[qH a.1]
  ·simp only[List.any_cons,zU] at a;simp only[qH a.1,qH a.2.1]
  ·simp only[List.any_cons,zU] at a;simp only[qH a.1]
  ·simp only[List.any_cons,zU] at a;simp only[qH a.1,qH a.2.1]
  ·simp only[List.any_cons,zU] at a;simp only[qH a.1,Zd _ a.2]
  ·simp only[List.any_cons,zU] at a;simp only[qH a.1,Zd _ a.2]
  ·rfl
 ·unfold vS;simp only;split
  ·rename_i y;simp only[Call.operands,Array.toList_append,List.any_append,zU] at b;have g:vR d y=false:=(by simpa using b.1);simp only[qH g,f]
  ·rfl
def ZK{d:Nat}{x:AV}(op:Op)(a:op.operands.toList.any (vR d)=false):ji P (upd T d x) op=ji P T op:=by
 cases op<;>simp only[Op.operands,List.any_cons,List.any_nil,Bool.or_false,zU,Array.toList_append,List.any_append] at a<;>try (rfl;done)
 case box t y=>simp only[ji,qH a]
 case buildSlice t n ps=>simp only[ji,KG ps.toList a]
 case makeSlice t l c=>simp only[ji,qH a.1,qH a.2]
 case makeMap t r=>cases r<;>rfl
def vg{d:Nat}{x:AV}(op:Op)(e:op.operands.toList.any (vR d)=false):zO P (upd T d x) h op=zO P T h op:=by
 have g:=ZK (P:=P) (T:=T) (x:=x) op e;have j:=e;cases op<;>simp only[Op.operands,List.any_cons,List.any_nil,Bool.or_false,zU,Array.toList_append,List.any_append] at e<;>try (rfl;done)
 case move y=>simp only[zO,qH e]
 case assign y=>simp only[zO,qH e]
 case pick a b c=>simp only[zO,qH e.1,qH e.2.1,qH e.2.2]
 case box t y=>simp only[zO,g]
 case build t ps=>simp only[zO,KG ps.toList e]
 case buildSlice t n ps=>simp only[zO,g]
 case makeSlice t l c=>simp only[zO,g]
 case makeMap t r=>simp only[zO,g]
 case load t y=>simp only[zO,qH e]
 case store t y z=>simp only[zO,qH e.1,qH e.2]
 case nilCheck y=>simp only[zO,qH e]
 case binOp op t y z _=>simp only[zO,qH e.1,qH e.2]
 case unOp op t y=>simp only[zO,qH e]
 case convert s t y=>simp only[zO,qH e]
 case makeFunc f p q=>simp only[zO,Zd p.toList e.1,Zd q.toList e.2]
 case fieldAddr t y i=>simp only[zO,qH e]
 case field t y i=>simp only[zO,qH e]
 case indexAddr t y i=>simp only[zO,qH e.1,qH e.2]
 case index t y i=>simp only[zO,qH e.1,qH e.2]
 case extract y i=>simp only[zO,qH e]
 case insert t m k v=>simp only[zO,qH e.1,qH e.2.1,qH e.2.2]
 case lookup t m k ok=>simp only[zO,qH e.1,qH e.2]
 case slice t y lo hi mx=>
  cases mx with
  | some m=>rfl
  | none=>
    have o:vR d y=false/\lo.toList.any (vR d)=false/\hi.toList.any (vR d)=false:=by
     simp only[Op.operands] at j;cases lo<;>cases hi<;>simp_all
    obtain⟨o,w,u⟩:=o;simp only[zO,qH o,XQ lo w,XQ hi u]
 case call c=>exact(XR (h:=h) e).1
def q9a{d e:Nat}(a:d≠e)(x y:AV):upd (upd T d x) e y=upd (upd T e y) d x:=by
 funext i;simp only[upd];split
 ·rename_i hi;subst hi;rw[if_neg (λh=>a h.symm)]
 ·rfl
def Z4{d:Nat}{x y:AV}{o:Oper}(b:o.dst≠some d):qG (upd T d x) o.dst y=upd (qG T o.dst y) d x:=by
 cases a:o.dst with
 | none=>rfl
 | some e=>exact q9a (λh=>b (by rw[a,h])) x y
def Ze{o:Oper}{K K':Env->List Ob->Prop}(k:vf P T h o K)(d:∀T h,K T h->K' T h):vf P T h o K':=by
 unfold vf at*
 split
 ·rename_i x h' a;rw[a] at k;exact d _ _ k
 ·rename_i a;rw[a] at k;clear a;generalize o.op=op at k⊢
  cases op<;>first
   | exact k.elim
   | skip
  rename_i c;simp only at k⊢;cases b:vS T c with
  | none=>rw[b] at k;exact k.elim
  | some q=>
    rw[b] at k;exact k.mono λ_ _=>d _ _
def yO{o:Oper}{run a:(Env->List Ob->Prop)->Env->List Ob->Prop}{K K':Env->List Ob->Prop}(k:xl ops o run K T h)(c:run K T h->a K' T h)(i:K (qG T o.dst (.v undef)) h->K' (qG T o.dst (.v undef)) h):xl ops o a K' T h:=by
 unfold xl at*
 cases f:o.guard with
 | none=>simp only[f] at k ⊢;exact c k
 | some q=>
   obtain⟨j,g⟩:=q;simp only[f] at k⊢;cases b:(ops[j]?).bind (·.dst) with
   | none=>simp only[b] at k
   | some d=>
     simp only[b] at k⊢;split at k
     ·exact⟨λe=>c (k.1 e),λe=>i (k.2 e)⟩
     ·exact i k
     ·exact k
def KH{b:List Ob}{o:Oper}{run a:(Env->List Ob->Prop)->Env->List Ob->Prop}{K K':Env->List Ob->Prop}(k:xl ops o run K T h)(g:run K T h->a K' T b)(l:K (qG T o.dst (.v undef)) h->K' (qG T o.dst (.v undef)) b):xl ops o a K' T b:=by
 unfold xl at*
 cases f:o.guard with
 | none=>simp only[f] at k ⊢;exact g k
 | some q=>
   obtain⟨j,i⟩:=q;simp only[f] at k⊢;cases c:(ops[j]?).bind (·.dst) with
   | none=>simp only[c] at k
   | some d=>
     simp only[c] at k⊢;split at k
     ·exact⟨λe=>g (k.1 e),λe=>l (k.2 e)⟩
     ·exact l k
     ·exact k
def j8{o:Oper}{K K':Env->List Ob->Prop}(k:xM P ops o K T h)(a:∀T h,K T h->K' T h):xM P ops o K' T h:=
 yO k (λk=>Ze k a) (a _ _)
def WM{id:Nat}{o:Oper}{K K':Env->List Ob->Prop}(k:yN P id o K T h)(b:∀T h,K T h->K' T h):yN P id o K' T h:=by
 unfold yN at*
 split
 ·rename_i ob mk a;rw[a] at k;exact⟨k.1,b _ _ k.2⟩
 ·rename_i a;rw[a] at k;exact k
def jaa{d:Nat}{x:AV}{o:Oper}{K:Env->List Ob->Prop}(a:o.op.operands.toList.any (vR d)=false)(b:o.dst≠some d):vf P (upd T d x) h o K=vf P T h o (λg f=>K (upd g d x) f):=by
 unfold vf;rw[vg o.op a];split
 ·rw[Z4 b]
 ·split
  ·rename_i c e;rw[e] at a;rw[(XR (P:=P) (h:=h) a).2];split
   ·simp only[Z4 b]
   ·rfl
  ·rfl
def WN{d:Nat}{x:AV}{o:Oper}{run:(Env->List Ob->Prop)->Env->List Ob->Prop}{K:Env->List Ob->Prop}(a:xz ops o d=false)(k:o.dst≠some d)(g:run K (upd T d x) h=run (λf b=>K (upd f d x) b) T h):xl ops o run K (upd T d x) h=xl ops o run (λf b=>K (upd f d x) b) T h:=by
 unfold xz at a;rw[zU] at a;unfold xl;cases m:o.guard with
 | none=>simp only[];exact g
 | some q=>
   obtain⟨j,i⟩:=q;rw[m] at a;simp only[];cases n:(ops[j]?).bind (·.dst) with
   | none=>rfl
   | some e=>
     have c:e≠d:=λh=>by
      have:=a.2;simp[n,h] at this
     have l:upd T d x e=T e:=(by simp[upd,c]);simp only[l,g,Z4 k]
def Zf{d:Nat}{x:AV}{o:Oper}{K:Env->List Ob->Prop}(a:xz ops o d=false)(b:o.dst≠some d):xM P ops o K (upd T d x) h=xM P ops o (λc e=>K (upd c d x) e) T h:=
 WN a b (jaa (by unfold xz at a;rw[zU] at a;exact a.1) b)
def w9(P:Program)(ops:Array Oper)(T:Env)(h:List Ob)(o:Oper):Option AV:=match o.guard with
 | none=>(zO P T h o.op).map (·.1)
 | some (j,a)=>match (ops[j]?).bind (·.dst) with
   | some d=>match T d with
     | .v (.bool b)=>if b=a then(zO P T h o.op).map (·.1) else some (.v undef)
     | .v (.tuple _)=>some (.v undef)
     | _=>none
   | none=>none
def WO{op:Op}(b:cls op<=1){x:AV}{h':List Ob}(a:zO P T h op=some (x,h')):h'=h:=by
 cases op<;>simp only[cls] at b<;>try (omega;done)
 case call c=>
  obtain⟨callee,args,d⟩:=c;simp only[zO,wY] at a;split at a
  ·split at a
   ·obtain⟨_,_,_,e⟩:=jV a;exact e.symm
   ·cases a
  ·simp at b
  ·simp at b
  ·simp at b
  ·obtain⟨_,_,_,e⟩:=jV a;exact e.symm
  ·obtain⟨_,_,_,e⟩:=jV a;exact e.symm
  ·cases a
 case slice t y lo hi mx=>
  cases mx with
  | some m=>cases a
  | none=>
    simp only[zO] at a;split at a
    ·simp only[Option.bind_eq_some_iff] at a;obtain⟨_,_,_,_,_,_,a⟩:=a;split at a
     ·injection a with a;injection a with _ a;exact a.symm
     ·cases a
    ·cases a
 case build t ps=>
  simp only[zO] at a;split at a
  ·split at a
   ·simp only[Option.bind_eq_some_iff] at a;obtain⟨_,_,a⟩:=a;obtain⟨_,_,_,e⟩:=jV a;exact e.symm
   ·cases a
  ·split at a
   ·simp only[Option.bind_eq_some_iff] at a;obtain⟨_,_,a⟩:=a;obtain⟨_,_,_,e⟩:=jV a;exact e.symm
   ·cases a
  ·cases a
 case fieldAddr t y i=>
  simp only[zO] at a;split at a
  ·simp only[Option.bind_eq_some_iff] at a;obtain⟨_,_,a⟩:=a;split at a
   ·split at a
    ·injection a with a;injection a with _ a;exact a.symm
    ·injection a with a;injection a with _ a;exact a.symm
    ·cases a
   ·cases a
  ·cases a
 case field t y i=>
  simp only[zO] at a;split at a
  ·simp only[Option.bind_eq_some_iff] at a;obtain⟨_,_,a⟩:=a;split at a
   ·obtain⟨_,_,_,e⟩:=jV a;exact e.symm
   ·cases a
  ·cases a
 all_goals
  simp only[zO] at a
  (repeat' split at a)
 all_goals first
  | cases a;done
  | (injection a with a;injection a with _ a;exact a.symm)
  | (simp only[Option.map_eq_some_iff,Prod.mk.injEq] at a;obtain⟨_,_,_,e⟩:=a;exact e.symm)
end
