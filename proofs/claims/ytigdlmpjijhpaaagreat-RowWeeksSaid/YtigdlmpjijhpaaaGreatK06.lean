/-
  Joined.
-/
import Derived.Test.YtigdlmpjijhpaaaGreatK05
import Derived.Attr
set_option linter.unusedSimpArgs false
set_option linter.unusedVariables false
namespace Go.Proofs.YtigdlmpjijhpaaaGreat.Ax
open Go Go.RowKit
class Held (α:Type) where
 it:α
def JL (b:Bool) [p:Held Prop] [q:Held Prop]:Prop:=(b=true->p.it)/\(b=false->q.it)
theorem jma {p q:Prop}: @JL true ⟨p⟩ ⟨q⟩=p:=by simp[JL]
theorem zaa {p q:Prop}: @JL false ⟨p⟩ ⟨q⟩=q:=by simp[JL]
theorem ways {b:Bool} {p q:Prop} (a:b=true->p) (c:b=false->q): @JL b ⟨p⟩ ⟨q⟩:=⟨a,c⟩
def Wz (P:Program) (f:FuncId) (aZ:List AV) (h:List Ob) [k:Held (AV->List Ob->Prop)]:Prop:=ACalls P f aZ h k.it
theorem zd {P:Program} {f:FuncId} {aZ:List AV} {h:List Ob} {R K:AV->List Ob->Prop} (c:ACalls P f aZ h R) (k:∀r h',R r h'->K r h'): @Wz P f aZ h ⟨K⟩:=c.mono k
def Xi (x:AV) [k:Held (Bool->Prop)]:Prop:=match x with
 | .v (.bool b)=>k.it b
 | _=>False
def Xj (x:Option (AV × List Ob)) [k:Held (AV->List Ob->Prop)]:Prop:=match x with
 | some (x,h)=>k.it x h
 | none=>False
def WA (P:Program) (x:AV) (aZ:List AV) (h:List Ob) [k:Held (AV->List Ob->Prop)]:Prop:=match x with
 | .fn (.func f) a b=>Wz P f (a++aZ++b) h
 | _=>False
def xR (x:AV) (a:Bool) [p:Held Prop] [q:Held Prop]:Prop:=match x with
 | .v (.bool b)=> @JL (b==a) p q
 | .v (.tuple _)=>q.it
 | _=>False
def zba (P:Program) (l:Nat) (aZ:List AV) (h:List Ob) [k:Held (List Ob->Prop)]:Prop:=Xd P l aZ h k.it
theorem yI {P:Program} {l:Nat} {aZ:List AV} {h:List Ob} {R K:List Ob->Prop} (c:Xd P l aZ h R) (k:∀h',R h'->K h'): @zba P l aZ h ⟨K⟩:=λφ o B w g vs b hB j=>by
 obtain ⟨fn,tmps,assign,body,f,d⟩:=c φ o B w g vs b hB j
 exact ⟨fn,tmps,assign,body,f,λm=>(d m).mono λe w' ⟨h',g',n,a,i⟩=>⟨h',g',n,k h' a,i⟩⟩
def KQ (P:Program) (x:AV) (aZ:List AV) (h:List Ob) [k:Held (AV->List Ob->Prop)]:Prop:=match x with
 | .fn (.func f) a b=>Wz P f (a++aZ++b) h
 | .v (.func (.yield l) a b)=>if a.isEmpty && b.isEmpty then @zba P l aZ h ⟨λh'=>k.it (.v (.bool true)) h'⟩ else False
 | _=>False
def zI:Op->Option (Operand × List Operand)
 | .call { callee:= .value x,args, .. }=>some (x,args.toList)
 | _=>none
def kI (ops:Array Oper) (j:Nat) (T:Env):AV:=match (ops[j]?).bind (·.dst) with
 | some d=>T d
 | none=> .bad
def VI (P:Program) (T:Env) (h:List Ob) (o:Oper) (K:Env->List Ob->Prop):Prop:=
 match zI o.op with
 | some (x,args)=> @WA P (ev T x) (evl T args) h ⟨λr h'=>K (zN T o.dst r) h'⟩
 | none=> @Xj (zn P T h o.op) ⟨λx h'=>K (zN T o.dst x) h'⟩
def JM (P:Program) (T:Env) (h:List Ob) (o:Oper) (K:Env->List Ob->Prop):Prop:=
 match zI o.op with
 | some (x,args)=> @KQ P (ev T x) (evl T args) h ⟨λr h'=>K (zN T o.dst r) h'⟩
 | none=> @Xj (zn P T h o.op) ⟨λx h'=>K (zN T o.dst x) h'⟩
def wpR (P:Program) (ops:Array Oper) (Q:Env->List Ob->Prop):List Oper->Env->List Ob->Prop
 | [],T,h=>Q T h
 | o::r,T,h=>match o.guard with
   | none=>JM P T h o (wpR P ops Q r)
   | some (j,a)=> @xR (kI ops j T) a ⟨JM P T h o (wpR P ops Q r)⟩ ⟨wpR P ops Q r (zN T o.dst (.v undef)) h⟩
def wm (P:Program) (N:Nat) (B:Bs) [x:Held (Code × jr)] (T:Env) (h:List Ob):Prop:=AWp P N B x.it.1 x.it.2 T h
def wpC (P:Program) (N:Nat) (B:Bs):Code->jr->Env->List Ob->Prop
 | .skip,Q,T,h=>Q .normal T h
 | .label _,Q,T,h=>Q .normal T h
 | .seq a b,Q,T,h=>wpC P N B a (kO (wpC P N B b Q) Q) T h
 | .region _ ops false,Q,T,h=>wpR P ops (Q .normal) ops.toList T h
 | .cond x a b,Q,T,h=> @Xi (ev T x) ⟨λt=> @JL t ⟨wpC P N B a Q T h⟩ ⟨wpC P N B b Q T h⟩⟩
 | .block id c,Q,T,h=>wpC P N B c (wT id Q) T h
 | .exit id,Q,T,h=>Q (.exit id) T h
 | .ret,Q,T,h=>Q .ret T h
 | c,Q,T,h=> @wm P N B ⟨(c,Q)⟩ T h
def okC (N:Nat):Code->Bool
 | .seq a b=>okC N a && okC N b
 | .region _ ops _=>ops.toList.all (vf N)
 | .cond _ a b=>okC N a && okC N b
 | .block _ c=>okC N c
 | .loop c=>okC N c
 | _=>true
section
variable {P:Program} {N:Nat} {B:Bs} {T:Env} {h h':List Ob} {Q:jr} {ops:Array Oper} {K:Env->List Ob->Prop} {r:List Oper} {dst:Option Tmp} {op:Op} {type:TypeId} {pos:String} {after:Array Edge} {guard:Option (Nat × Bool)} {x:AV}
theorem xYa {b:Bool} {k:Bool->Prop}: @Xi (.v (.bool b)) ⟨k⟩=k b:=id rfl
theorem zca {k:AV->List Ob->Prop}: @Xj (some (x,h)) ⟨k⟩=k x h:=id rfl
theorem xZa {f:FuncId} {a b aZ:List AV} {k:AV->List Ob->Prop}: @WA P (.fn (.func f) a b) aZ h ⟨k⟩= @Wz P f (a++aZ++b) h ⟨k⟩:=id rfl
theorem x0a {b a:Bool} {p q:Prop}: @xR (.v (.bool b)) a ⟨p⟩ ⟨q⟩= @JL (b==a) ⟨p⟩ ⟨q⟩:=id rfl
theorem x1a {vs:Array Value} {a:Bool} {p q:Prop}: @xR (.v (.tuple vs)) a ⟨p⟩ ⟨q⟩=q:=id rfl
theorem waa (a:zI op=none):VI P T h ⟨dst,op,type,pos,after,guard⟩ K= @Xj (zn P T h op) ⟨λx h'=>K (zN T dst x) h'⟩:=by
 unfold VI
 rw[a]
theorem jna {y:Operand} {args:Array Operand} {a:Array TypeId}:VI P T h ⟨dst,.call ⟨.value y,args,a⟩,type,pos,after,guard⟩ K= @WA P (ev T y) (evl T args.toList) h ⟨λx h'=>K (zN T dst x) h'⟩:=id rfl
theorem x2a {f:FuncId} {a b aZ:List AV} {k:AV->List Ob->Prop}: @KQ P (.fn (.func f) a b) aZ h ⟨k⟩= @Wz P f (a++aZ++b) h ⟨k⟩:=id rfl
theorem wba {l:Nat} {aZ:List AV} {k:AV->List Ob->Prop}: @KQ P (.v (.func (.yield l) #[] #[])) aZ h ⟨k⟩= @zba P l aZ h ⟨λh'=>k (.v (.bool true)) h'⟩:=id rfl
theorem wca (a:zI op=none):JM P T h ⟨dst,op,type,pos,after,guard⟩ K= @Xj (zn P T h op) ⟨λx h'=>K (zN T dst x) h'⟩:=by
 unfold JM
 rw[a]
theorem joa {y:Operand} {args:Array Operand} {a:Array TypeId}:JM P T h ⟨dst,.call ⟨.value y,args,a⟩,type,pos,after,guard⟩ K= @KQ P (ev T y) (evl T args.toList) h ⟨λr h'=>K (zN T dst r) h'⟩:=id rfl
theorem wda {Q:Env->List Ob->Prop}:wpR P ops Q [] T h=Q T h:=id rfl
theorem x3a {Q:Env->List Ob->Prop}:wpR P ops Q (⟨dst,op,type,pos,after,none⟩::r) T h=JM P T h ⟨dst,op,type,pos,after,none⟩ (wpR P ops Q r):=id rfl
theorem x4a {Q:Env->List Ob->Prop} {j:Nat} {a:Bool}:wpR P ops Q (⟨dst,op,type,pos,after,some (j,a)⟩::r) T h= @xR (kI ops j T) a ⟨JM P T h ⟨dst,op,type,pos,after,some (j,a)⟩ (wpR P ops Q r)⟩ ⟨wpR P ops Q r (zN T dst (.v undef)) h⟩:=id rfl
theorem Xk:wpC P N B .skip Q T h=Q .normal T h:=id rfl
theorem jpa {l:Nat}:wpC P N B (.label l) Q T h=Q .normal T h:=id rfl
theorem Qj {a b:Code}:wpC P N B (.seq a b) Q T h=wpC P N B a (kO (wpC P N B b Q) Q) T h:=id rfl
theorem zda {a:Nat}:wpC P N B (.region a ops false) Q T h=wpR P ops (Q .normal) ops.toList T h:=id rfl
theorem x5a {y:Operand} {a b:Code}:wpC P N B (.cond y a b) Q T h= @Xi (ev T y) ⟨λt=> @JL t ⟨wpC P N B a Q T h⟩ ⟨wpC P N B b Q T h⟩⟩:=id rfl
theorem jqa {i:Nat} {c:Code}:wpC P N B (.block i c) Q T h=wpC P N B c (wT i Q) T h:=id rfl
theorem x6a {i:Nat}:wpC P N B (.exit i) Q T h=Q (.exit i) T h:=id rfl
theorem wea:wpC P N B .ret Q T h=Q .ret T h:=id rfl
theorem x7a {c:Code}:wpC P N B (.loop c) Q T h= @wm P N B ⟨(.loop c,Q)⟩ T h:=id rfl
theorem x8a {i:Nat}:wpC P N B (.region i ops true) Q T h= @wm P N B ⟨(.region i ops true,Q)⟩ T h:=id rfl
theorem VJ {next:Env->List Ob->Prop}:kO next Q .normal T h=next T h:=id rfl
theorem wfa {next:Env->List Ob->Prop} {i:Nat}:kO next Q (.exit i) T h=Q (.exit i) T h:=id rfl
theorem wga {next:Env->List Ob->Prop}:kO next Q .ret T h=Q .ret T h:=id rfl
theorem x9a {i:Nat}:wT i Q .normal T h=Q .normal T h:=id rfl
theorem kaa {i:Nat}:wT i Q .ret T h=Q .ret T h:=id rfl
theorem Xl {i j:Nat}:wT i Q (.exit j) T h=if j=i then Q .normal T h else Q (.exit j) T h:=id rfl
theorem QJa (T:Env) (d:Nat) (x:AV) (i:Nat):upd T d x i=if i=d then x else T i:=id rfl
theorem y4a {d:Nat}:zN T (some d) x=upd T d x:=id rfl
theorem y5a:zN T none x=T:=id rfl
theorem zea {o:Oper} {K:Env->List Ob->Prop} (k:VI P T h o K):xX P T h o K:=by
 unfold VI at k
 unfold xX
 cases c:zI o.op with
 | some q=>
   obtain ⟨X,args⟩:=q
   have a:∃aZ b,o.op= .call ⟨.value X,aZ,b⟩/\aZ.toList=args:=by
    unfold zI at c
    split at c
    ·rename_i X' aZ b e
     injection c with c
     injection c with h1 h2
     subst h1
     exact ⟨aZ,b,e,h2⟩
    ·cases c
   obtain ⟨aZ,b,a,has⟩:=a
   rw[c] at k
   simp only[WA] at k
   have e:zn P T h o.op=none:=by rw[a];rfl
   rw[e,a]
   simp only[vm,has]
   split at k
   ·rename_i f j i g;simp only[g];exact k
   ·exact k.elim
 | none=>
   rw[c] at k
   simp only[Xj] at k
   split at k
   ·rename_i d;rw[d];exact k
   ·exact k.elim
theorem kba {o:Oper} {K:Env->List Ob->Prop} (k:JM P T h o K):Xe P T h o K:=by
 unfold JM at k
 unfold Xe
 cases a:zI o.op with
 | none=>
   have g:kG T o.op=none:=by
    unfold kG
    unfold zI at a
    split
    ·rename_i c m
     split
     ·rename_i X e
      obtain ⟨p,ar,b⟩:=c
      simp only at e
      subst e
      rw[m] at a
      cases a
     ·rfl
    ·rfl
   rw[g]
   refine zea ?_
   unfold VI
   rw[a] at k⊢
   exact k
 | some q=>
   obtain ⟨X,args⟩:=q
   have d:∃aZ b,o.op= .call ⟨.value X,aZ,b⟩/\aZ.toList=args:=by
    unfold zI at a
    split at a
    ·rename_i X' aZ b r
     injection a with a
     injection a with h1 h2
     subst h1
     exact ⟨aZ,b,r,h2⟩
    ·cases a
   obtain ⟨aZ,b,d,has⟩:=d
   rw[a] at k
   simp only[KQ] at k
   split at k
   ·rename_i f s n i
    have g:kG T o.op=none:=by unfold kG;rw[d];simp only[i]
    rw[g]
    refine zea ?_
    unfold VI
    rw[a]
    simp only[WA,i]
    exact k
   ·rename_i l s n i
    split at k
    ·rename_i j
     have g:kG T o.op=some (l,evl T args):=by unfold kG;rw[d];simp only[i,if_pos j,has]
     rw[g]
     exact k
    ·exact k.elim
   ·exact k.elim
end
end Go.Proofs.YtigdlmpjijhpaaaGreat.Ax
