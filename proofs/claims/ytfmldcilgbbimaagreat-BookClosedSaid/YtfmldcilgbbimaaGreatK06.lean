/-
  Joined.
-/
import Derived.Test.YtfmldcilgbbimaaGreatK05
import Derived.Attr
set_option linter.unusedSimpArgs false
set_option linter.unusedVariables false
namespace Go.Proofs.YtfmldcilgbbimaaGreat.Ax
open Go Go.RowKit
class Held (α:Type) where
 it:α
def KS (b:Bool) [p:Held Prop] [q:Held Prop]:Prop:=(b=true->p.it)/\(b=false->q.it)
theorem XG {p q:Prop}: @KS true ⟨p⟩ ⟨q⟩=p:=by simp[KS]
theorem Vr {p q:Prop}: @KS false ⟨p⟩ ⟨q⟩=q:=by simp[KS]
theorem ways {b:Bool} {p q:Prop} (a:b=true->p) (c:b=false->q): @KS b ⟨p⟩ ⟨q⟩:=⟨a,c⟩
def Yj (P:Program) (f:FuncId) (aZ:List AV) (h:List Ob) [k:Held (AV->List Ob->Prop)]:Prop:=ACalls P f aZ h k.it
theorem zc {P:Program} {f:FuncId} {aZ:List AV} {h:List Ob} {R K:AV->List Ob->Prop} (c:ACalls P f aZ h R) (k:∀r h',R r h'->K r h'): @Yj P f aZ h ⟨K⟩:=c.mono k
def Vs (x:AV) [k:Held (Bool->Prop)]:Prop:=match x with
 | .v (.bool b)=>k.it b
 | _=>False
def Vt (x:Option (AV × List Ob)) [k:Held (AV->List Ob->Prop)]:Prop:=match x with
 | some (x,h)=>k.it x h
 | none=>False
def qqa (P:Program) (x:AV) (aZ:List AV) (h:List Ob) [k:Held (AV->List Ob->Prop)]:Prop:=match x with
 | .fn (.func f) a cs=>Yj P f (a++aZ++cs) h
 | _=>False
def kW (x:AV) (a:Bool) [p:Held Prop] [q:Held Prop]:Prop:=match x with
 | .v (.bool b)=> @KS (b==a) p q
 | .v (.tuple _)=>q.it
 | _=>False
def xda (P:Program) (l:Nat) (aZ:List AV) (h:List Ob) [k:Held (List Ob->Prop)]:Prop:=Vn P l aZ h k.it
theorem ZY {P:Program} {l:Nat} {aZ:List AV} {h:List Ob} {R K:List Ob->Prop} (c:Vn P l aZ h R) (k:∀h',R h'->K h'): @xda P l aZ h ⟨K⟩:=λφ o B w g vs f hB a=>by
 obtain ⟨fn,tmps,assign,body,i,n⟩:=c φ o B w g vs f hB a
 exact ⟨fn,tmps,assign,body,i,λm=>(n m).mono λe w' ⟨h',g',b,d,j⟩=>⟨h',g',b,k h' d,j⟩⟩
def Vu (P:Program) (x:AV) (aZ:List AV) (h:List Ob) [k:Held (AV->List Ob->Prop)]:Prop:=match x with
 | .fn (.func f) a cs=>Yj P f (a++aZ++cs) h
 | .v (.func (.yield l) a cs)=>if a.isEmpty && cs.isEmpty then @xda P l aZ h ⟨λh'=>k.it (.v (.bool true)) h'⟩ else False
 | _=>False
def zY:Op->Option (Operand × List Operand)
 | .call { callee:= .value x,args, .. }=>some (x,args.toList)
 | _=>none
def vI (ops:Array Oper) (j:Nat) (T:Env):AV:=match (ops[j]?).bind (·.dst) with
 | some d=>T d
 | none=> .bad
def WV (P:Program) (T:Env) (h:List Ob) (o:Oper) (K:Env->List Ob->Prop):Prop:=
 match zY o.op with
 | some (x,args)=> @qqa P (ev T x) (evl T args) h ⟨λr h'=>K (zZ T o.dst r) h'⟩
 | none=> @Vt (zt P T h o.op) ⟨λx h'=>K (zZ T o.dst x) h'⟩
def KT (P:Program) (T:Env) (h:List Ob) (o:Oper) (K:Env->List Ob->Prop):Prop:=
 match zY o.op with
 | some (x,args)=> @Vu P (ev T x) (evl T args) h ⟨λr h'=>K (zZ T o.dst r) h'⟩
 | none=> @Vt (zt P T h o.op) ⟨λx h'=>K (zZ T o.dst x) h'⟩
def wpR (P:Program) (ops:Array Oper) (Q:Env->List Ob->Prop):List Oper->Env->List Ob->Prop
 | [],T,h=>Q T h
 | o::r,T,h=>match o.guard with
   | none=>KT P T h o (wpR P ops Q r)
   | some (j,a)=> @kW (vI ops j T) a ⟨KT P T h o (wpR P ops Q r)⟩ ⟨wpR P ops Q r (zZ T o.dst (.v undef)) h⟩
def yk (P:Program) (N:Nat) (B:Bs) [x:Held (Code × jv)] (T:Env) (h:List Ob):Prop:=AWp P N B x.it.1 x.it.2 T h
def wpC (P:Program) (N:Nat) (B:Bs):Code->jv->Env->List Ob->Prop
 | .skip,Q,T,h=>Q .normal T h
 | .label _,Q,T,h=>Q .normal T h
 | .seq a b,Q,T,h=>wpC P N B a (vO (wpC P N B b Q) Q) T h
 | .region _ ops false,Q,T,h=>wpR P ops (Q .normal) ops.toList T h
 | .cond x a b,Q,T,h=> @Vs (ev T x) ⟨λt=> @KS t ⟨wpC P N B a Q T h⟩ ⟨wpC P N B b Q T h⟩⟩
 | .block id c,Q,T,h=>wpC P N B c (y9 id Q) T h
 | .exit id,Q,T,h=>Q (.exit id) T h
 | .ret,Q,T,h=>Q .ret T h
 | c,Q,T,h=> @yk P N B ⟨(c,Q)⟩ T h
def okC (N:Nat):Code->Bool
 | .seq a b=>okC N a && okC N b
 | .region _ ops _=>ops.toList.all (xq N)
 | .cond _ a b=>okC N a && okC N b
 | .block _ c=>okC N c
 | .loop c=>okC N c
 | _=>true
section
variable {P:Program} {N:Nat} {B:Bs} {T:Env} {h h':List Ob} {Q:jv} {ops:Array Oper} {K:Env->List Ob->Prop} {r:List Oper} {dst:Option Tmp} {op:Op} {type:TypeId} {pos:String} {after:Array Edge} {guard:Option (Nat × Bool)} {x:AV}
theorem yxa {b:Bool} {k:Bool->Prop}: @Vs (.v (.bool b)) ⟨k⟩=k b:=id rfl
theorem xea {k:AV->List Ob->Prop}: @Vt (some (x,h)) ⟨k⟩=k x h:=id rfl
theorem yya {f:FuncId} {a cs aZ:List AV} {k:AV->List Ob->Prop}: @qqa P (.fn (.func f) a cs) aZ h ⟨k⟩= @Yj P f (a++aZ++cs) h ⟨k⟩:=id rfl
theorem yza {b a:Bool} {p q:Prop}: @kW (.v (.bool b)) a ⟨p⟩ ⟨q⟩= @KS (b==a) ⟨p⟩ ⟨q⟩:=id rfl
theorem yAa {vs:Array Value} {a:Bool} {p q:Prop}: @kW (.v (.tuple vs)) a ⟨p⟩ ⟨q⟩=q:=id rfl
theorem QUa (a:zY op=none):WV P T h ⟨dst,op,type,pos,after,guard⟩ K= @Vt (zt P T h op) ⟨λx h'=>K (zZ T dst x) h'⟩:=by
 unfold WV
 rw[a]
theorem vIa {y:Operand} {args:Array Operand} {a:Array TypeId}:WV P T h ⟨dst,.call ⟨.value y,args,a⟩,type,pos,after,guard⟩ K= @qqa P (ev T y) (evl T args.toList) h ⟨λx h'=>K (zZ T dst x) h'⟩:=id rfl
theorem qra {f:FuncId} {a cs aZ:List AV} {k:AV->List Ob->Prop}: @Vu P (.fn (.func f) a cs) aZ h ⟨k⟩= @Yj P f (a++aZ++cs) h ⟨k⟩:=id rfl
theorem QVa {l:Nat} {aZ:List AV} {k:AV->List Ob->Prop}: @Vu P (.v (.func (.yield l) #[] #[])) aZ h ⟨k⟩= @xda P l aZ h ⟨λh'=>k (.v (.bool true)) h'⟩:=id rfl
theorem QWa (a:zY op=none):KT P T h ⟨dst,op,type,pos,after,guard⟩ K= @Vt (zt P T h op) ⟨λx h'=>K (zZ T dst x) h'⟩:=by
 unfold KT
 rw[a]
theorem vJa {y:Operand} {args:Array Operand} {a:Array TypeId}:KT P T h ⟨dst,.call ⟨.value y,args,a⟩,type,pos,after,guard⟩ K= @Vu P (ev T y) (evl T args.toList) h ⟨λr h'=>K (zZ T dst r) h'⟩:=id rfl
theorem QXa {Q:Env->List Ob->Prop}:wpR P ops Q [] T h=Q T h:=id rfl
theorem yBa {Q:Env->List Ob->Prop}:wpR P ops Q (⟨dst,op,type,pos,after,none⟩::r) T h=KT P T h ⟨dst,op,type,pos,after,none⟩ (wpR P ops Q r):=id rfl
theorem yCa {Q:Env->List Ob->Prop} {j:Nat} {a:Bool}:wpR P ops Q (⟨dst,op,type,pos,after,some (j,a)⟩::r) T h= @kW (vI ops j T) a ⟨KT P T h ⟨dst,op,type,pos,after,some (j,a)⟩ (wpR P ops Q r)⟩ ⟨wpR P ops Q r (zZ T dst (.v undef)) h⟩:=id rfl
theorem Vv:wpC P N B .skip Q T h=Q .normal T h:=id rfl
theorem vKa {l:Nat}:wpC P N B (.label l) Q T h=Q .normal T h:=id rfl
theorem JZ {a b:Code}:wpC P N B (.seq a b) Q T h=wpC P N B a (vO (wpC P N B b Q) Q) T h:=id rfl
theorem xfa {a:Nat}:wpC P N B (.region a ops false) Q T h=wpR P ops (Q .normal) ops.toList T h:=id rfl
theorem yDa {y:Operand} {a b:Code}:wpC P N B (.cond y a b) Q T h= @Vs (ev T y) ⟨λt=> @KS t ⟨wpC P N B a Q T h⟩ ⟨wpC P N B b Q T h⟩⟩:=id rfl
theorem vLa {i:Nat} {c:Code}:wpC P N B (.block i c) Q T h=wpC P N B c (y9 i Q) T h:=id rfl
theorem yEa {i:Nat}:wpC P N B (.exit i) Q T h=Q (.exit i) T h:=id rfl
theorem QYa:wpC P N B .ret Q T h=Q .ret T h:=id rfl
theorem yFa {c:Code}:wpC P N B (.loop c) Q T h= @yk P N B ⟨(.loop c,Q)⟩ T h:=id rfl
theorem yGa {i:Nat}:wpC P N B (.region i ops true) Q T h= @yk P N B ⟨(.region i ops true,Q)⟩ T h:=id rfl
theorem zla {next:Env->List Ob->Prop}:vO next Q .normal T h=next T h:=id rfl
theorem QZa {next:Env->List Ob->Prop} {i:Nat}:vO next Q (.exit i) T h=Q (.exit i) T h:=id rfl
theorem Q0a {next:Env->List Ob->Prop}:vO next Q .ret T h=Q .ret T h:=id rfl
theorem yHa {i:Nat}:y9 i Q .normal T h=Q .normal T h:=id rfl
theorem yIa {i:Nat}:y9 i Q .ret T h=Q .ret T h:=id rfl
theorem Vw {i j:Nat}:y9 i Q (.exit j) T h=if j=i then Q .normal T h else Q (.exit j) T h:=id rfl
theorem Wba (T:Env) (d:Nat) (x:AV) (i:Nat):upd T d x i=if i=d then x else T i:=id rfl
theorem Kca {d:Nat}:zZ T (some d) x=upd T d x:=id rfl
theorem Kda:zZ T none x=T:=id rfl
theorem zma {o:Oper} {K:Env->List Ob->Prop} (k:WV P T h o K):vg P T h o K:=by
 unfold WV at k
 unfold vg
 cases c:zY o.op with
 | some q=>
   obtain ⟨X,args⟩:=q
   have a:∃aZ b,o.op= .call ⟨.value X,aZ,b⟩/\aZ.toList=args:=by
    unfold zY at c
    split at c
    ·rename_i X' aZ b d
     injection c with c
     injection c with h1 h2
     subst h1
     exact ⟨aZ,b,d,h2⟩
    ·cases c
   obtain ⟨aZ,b,a,has⟩:=a
   rw[c] at k
   simp only[qqa] at k
   have d:zt P T h o.op=none:=by rw[a];rfl
   rw[d,a]
   simp only[wu,has]
   split at k
   ·rename_i f i cs g;simp only[g];exact k
   ·exact k.elim
 | none=>
   rw[c] at k
   simp only[Vt] at k
   split at k
   ·rename_i e;rw[e];exact k
   ·exact k.elim
theorem yJa {o:Oper} {K:Env->List Ob->Prop} (k:KT P T h o K):Vo P T h o K:=by
 unfold KT at k
 unfold Vo
 cases a:zY o.op with
 | none=>
   have g:vH T o.op=none:=by
    unfold vH
    unfold zY at a
    split
    ·rename_i c p
     split
     ·rename_i X e
      obtain ⟨r,ar,b⟩:=c
      simp only at e
      subst e
      rw[p] at a
      cases a
     ·rfl
    ·rfl
   rw[g]
   refine zma ?_
   unfold WV
   rw[a] at k⊢
   exact k
 | some q=>
   obtain ⟨X,args⟩:=q
   have d:∃aZ b,o.op= .call ⟨.value X,aZ,b⟩/\aZ.toList=args:=by
    unfold zY at a
    split at a
    ·rename_i X' aZ b m
     injection a with a
     injection a with h1 h2
     subst h1
     exact ⟨aZ,b,m,h2⟩
    ·cases a
   obtain ⟨aZ,b,d,has⟩:=d
   rw[a] at k
   simp only[Vu] at k
   split at k
   ·rename_i f n cs i
    have g:vH T o.op=none:=by unfold vH;rw[d];simp only[i]
    rw[g]
    refine zma ?_
    unfold WV
    rw[a]
    simp only[qqa,i]
    exact k
   ·rename_i l n cs i
    split at k
    ·rename_i j
     have g:vH T o.op=some (l,evl T args):=by unfold vH;rw[d];simp only[i,if_pos j,has]
     rw[g]
     exact k
    ·exact k.elim
   ·exact k.elim
end
end Go.Proofs.YtfmldcilgbbimaaGreat.Ax
