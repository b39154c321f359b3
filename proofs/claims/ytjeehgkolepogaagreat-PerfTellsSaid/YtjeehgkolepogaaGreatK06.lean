import Derived.Test.YtjeehgkolepogaaGreatK05
import Derived.Attr
set_option linter.all false
namespace Go.Proofs.YtjeehgkolepogaaGreat.Ax
open Go Go.RowKit
section
variable{p q:Prop}{P:Program}{aZ:List AV}{h:List Ob}
class Held (α:Type) where
 it:α
def Q5(b:Bool)[p:Held Prop][q:Held Prop]:Prop:=(b=true->p.it)/\(b=false->q.it)
def zCa: @Q5 true ⟨p⟩ ⟨q⟩=p:=by simp[Q5]
def WH: @Q5 false ⟨p⟩ ⟨q⟩=q:=by simp[Q5]
def ways{b:Bool}(a:b=true->p)(c:b=false->q): @Q5 b ⟨p⟩ ⟨q⟩:=⟨a,c⟩
def Jz(P:Program)(f:FuncId)(aZ:List AV)(h:List Ob)[k:Held (AV->List Ob->Prop)]:Prop:=ACalls P f aZ h k.it
def zl{f:FuncId}{R K:AV->List Ob->Prop}(c:ACalls P f aZ h R)(k:∀r h',R r h'->K r h'): @Jz P f aZ h ⟨K⟩:=c.mono k
def JA(x:AV)[k:Held (Bool->Prop)]:Prop:=match x with
 | .v (.bool b)=>k.it b
 | _=>False
def JB(x:Option (AV × List Ob))[k:Held (AV->List Ob->Prop)]:Prop:=match x with
 | some (x,h)=>k.it x h
 | none=>False
def Vw(P:Program)(x:AV)(aZ:List AV)(h:List Ob)[k:Held (AV->List Ob->Prop)]:Prop:=match x with
 | .fn (.func f) a b=>Jz P f (a++aZ++b) h
 | _=>False
def kN(x:AV)(a:Bool)[p:Held Prop][q:Held Prop]:Prop:=match x with
 | .v (.bool b)=> @Q5 (b==a) p q
 | .v (.tuple _)=>q.it
 | _=>False
def WI(P:Program)(l:Nat)(aZ:List AV)(h:List Ob)[k:Held (List Ob->Prop)]:Prop:=WC P l aZ h k.it
def Vx{l:Nat}{R K:List Ob->Prop}(c:WC P l aZ h R)(k:∀h',R h'->K h'): @WI P l aZ h ⟨K⟩:=λφ o B w g vs j hB i=>by
 obtain⟨fn,tmps,assign,body,n,f⟩:=c φ o B w g vs j hB i;exact⟨fn,tmps,assign,body,n,λm=>(f m).mono λe w' ⟨h',g',a,d,b⟩=>⟨h',g',a,k h' d,b⟩⟩
def XP(P:Program)(x:AV)(aZ:List AV)(h:List Ob)[k:Held (AV->List Ob->Prop)]:Prop:=match x with
 | .fn (.func f) a b=>Jz P f (a++aZ++b) h
 | .v (.func (.yield l) a b)=>if a.isEmpty && b.isEmpty then @WI P l aZ h ⟨λh'=>k.it (.v (.bool true)) h'⟩ else False
 | _=>False
def qw:Op->Option (Operand × List Operand)
 | .call { callee:= .value x,args, .. }=>some (x,args.toList)
 | _=>none
def vv(ops:Array Oper)(j:Nat)(T:Env):AV:=match (ops[j]?).bind (·.dst) with
 | some d=>T d
 | none=> .bad
def KE(P:Program)(T:Env)(h:List Ob)(o:Oper)(K:Env->List Ob->Prop):Prop:=
 match qw o.op with
 | some (x,args)=> @Vw P (ev T x) (evl T args) h ⟨λr h'=>K (qG T o.dst r) h'⟩
 | none=> @JB (zO P T h o.op) ⟨λx h'=>K (qG T o.dst x) h'⟩
def Q6(P:Program)(T:Env)(h:List Ob)(o:Oper)(K:Env->List Ob->Prop):Prop:=
 match qw o.op with
 | some (x,args)=> @XP P (ev T x) (evl T args) h ⟨λr h'=>K (qG T o.dst r) h'⟩
 | none=> @JB (zO P T h o.op) ⟨λx h'=>K (qG T o.dst x) h'⟩
def wpR(P:Program)(ops:Array Oper)(Q:Env->List Ob->Prop):List Oper->Env->List Ob->Prop
 | [],T,h=>Q T h
 | o::r,T,h=>match o.guard with
   | none=>Q6 P T h o (wpR P ops Q r)
   | some (j,a)=> @kN (vv ops j T) a ⟨Q6 P T h o (wpR P ops Q r)⟩ ⟨wpR P ops Q r (qG T o.dst (.v undef)) h⟩
def w8(P:Program)(N:Nat)(B:Bs)[x:Held (Code × xk)](T:Env)(h:List Ob):Prop:=AWp P N B x.it.1 x.it.2 T h
def wpC(P:Program)(N:Nat)(B:Bs):Code->xk->Env->List Ob->Prop
 | .skip,Q,T,h=>Q .normal T h
 | .label _,Q,T,h=>Q .normal T h
 | .seq a b,Q,T,h=>wpC P N B a (wZ (wpC P N B b Q) Q) T h
 | .region _ ops false,Q,T,h=>wpR P ops (Q .normal) ops.toList T h
 | .cond x a b,Q,T,h=> @JA (ev T x) ⟨λt=> @Q5 t ⟨wpC P N B a Q T h⟩ ⟨wpC P N B b Q T h⟩⟩
 | .block id c,Q,T,h=>wpC P N B c (ZI id Q) T h
 | .exit id,Q,T,h=>Q (.exit id) T h
 | .ret,Q,T,h=>Q .ret T h
 | c,Q,T,h=> @w8 P N B ⟨(c,Q)⟩ T h
def okC(N:Nat):Code->Bool
 | .seq a b=>okC N a && okC N b
 | .region _ ops _=>ops.toList.all (wF N)
 | .cond _ a b=>okC N a && okC N b
 | .block _ c=>okC N c
 | .loop c=>okC N c
 | _=>true
section
variable {P:Program} {N:Nat} {B:Bs} {T:Env} {h h':List Ob} {Q:xk} {ops:Array Oper} {K:Env->List Ob->Prop} {r:List Oper} {dst:Option Tmp} {op:Op} {type:TypeId} {pos:String} {after:Array Edge} {guard:Option (Nat × Bool)} {x:AV}
def qUa{b:Bool}{k:Bool->Prop}: @JA (.v (.bool b)) ⟨k⟩=k b:=id rfl
def WJ{k:AV->List Ob->Prop}: @JB (some (x,h)) ⟨k⟩=k x h:=id rfl
def qVa{f:FuncId}{a b aZ:List AV}{k:AV->List Ob->Prop}: @Vw P (.fn (.func f) a b) aZ h ⟨k⟩= @Jz P f (a++aZ++b) h ⟨k⟩:=id rfl
def qWa{b a:Bool}{p q:Prop}: @kN (.v (.bool b)) a ⟨p⟩ ⟨q⟩= @Q5 (b==a) ⟨p⟩ ⟨q⟩:=id rfl
def qXa{vs:Array Value}{a:Bool}{p q:Prop}: @kN (.v (.tuple vs)) a ⟨p⟩ ⟨q⟩=q:=id rfl
def xYa(a:qw op=none):KE P T h ⟨dst,op,type,pos,after,guard⟩ K= @JB (zO P T h op) ⟨λx h'=>K (qG T dst x) h'⟩:=by
 unfold KE;rw[a]
def zDa{y:Operand}{args:Array Operand}{a:Array TypeId}:KE P T h ⟨dst,.call ⟨.value y,args,a⟩,type,pos,after,guard⟩ K= @Vw P (ev T y) (evl T args.toList) h ⟨λx h'=>K (qG T dst x) h'⟩:=id rfl
def qYa{f:FuncId}{a b aZ:List AV}{k:AV->List Ob->Prop}: @XP P (.fn (.func f) a b) aZ h ⟨k⟩= @Jz P f (a++aZ++b) h ⟨k⟩:=id rfl
def xZa{l:Nat}{aZ:List AV}{k:AV->List Ob->Prop}: @XP P (.v (.func (.yield l) #[] #[])) aZ h ⟨k⟩= @WI P l aZ h ⟨λh'=>k (.v (.bool true)) h'⟩:=id rfl
def x0a(a:qw op=none):Q6 P T h ⟨dst,op,type,pos,after,guard⟩ K= @JB (zO P T h op) ⟨λx h'=>K (qG T dst x) h'⟩:=by
 unfold Q6;rw[a]
def zEa{y:Operand}{args:Array Operand}{a:Array TypeId}:Q6 P T h ⟨dst,.call ⟨.value y,args,a⟩,type,pos,after,guard⟩ K= @XP P (ev T y) (evl T args.toList) h ⟨λr h'=>K (qG T dst r) h'⟩:=id rfl
def x1a{Q:Env->List Ob->Prop}:wpR P ops Q [] T h=Q T h:=id rfl
def qZa{Q:Env->List Ob->Prop}:wpR P ops Q (⟨dst,op,type,pos,after,none⟩::r) T h=Q6 P T h ⟨dst,op,type,pos,after,none⟩ (wpR P ops Q r):=id rfl
def q0a{Q:Env->List Ob->Prop}{j:Nat}{a:Bool}:wpR P ops Q (⟨dst,op,type,pos,after,some (j,a)⟩::r) T h= @kN (vv ops j T) a ⟨Q6 P T h ⟨dst,op,type,pos,after,some (j,a)⟩ (wpR P ops Q r)⟩ ⟨wpR P ops Q r (qG T dst (.v undef)) h⟩:=id rfl
def JC:wpC P N B .skip Q T h=Q .normal T h:=id rfl
def zFa{l:Nat}:wpC P N B (.label l) Q T h=Q .normal T h:=id rfl
def Z3{a b:Code}:wpC P N B (.seq a b) Q T h=wpC P N B a (wZ (wpC P N B b Q) Q) T h:=id rfl
def WK{a:Nat}:wpC P N B (.region a ops false) Q T h=wpR P ops (Q .normal) ops.toList T h:=id rfl
def q1a{y:Operand}{a b:Code}:wpC P N B (.cond y a b) Q T h= @JA (ev T y) ⟨λt=> @Q5 t ⟨wpC P N B a Q T h⟩ ⟨wpC P N B b Q T h⟩⟩:=id rfl
def zGa{i:Nat}{c:Code}:wpC P N B (.block i c) Q T h=wpC P N B c (ZI i Q) T h:=id rfl
def q2a{i:Nat}:wpC P N B (.exit i) Q T h=Q (.exit i) T h:=id rfl
def x2a:wpC P N B .ret Q T h=Q .ret T h:=id rfl
def q3a{c:Code}:wpC P N B (.loop c) Q T h= @w8 P N B ⟨(.loop c,Q)⟩ T h:=id rfl
def q4a{i:Nat}:wpC P N B (.region i ops true) Q T h= @w8 P N B ⟨(.region i ops true,Q)⟩ T h:=id rfl
def KF{next:Env->List Ob->Prop}:wZ next Q .normal T h=next T h:=id rfl
def x3a{next:Env->List Ob->Prop}{i:Nat}:wZ next Q (.exit i) T h=Q (.exit i) T h:=id rfl
def x4a{next:Env->List Ob->Prop}:wZ next Q .ret T h=Q .ret T h:=id rfl
def q5a{i:Nat}:ZI i Q .normal T h=Q .normal T h:=id rfl
def q6a{i:Nat}:ZI i Q .ret T h=Q .ret T h:=id rfl
def JD{i j:Nat}:ZI i Q (.exit j) T h=if j=i then Q .normal T h else Q (.exit j) T h:=id rfl
def wsa(T:Env)(d:Nat)(x:AV)(i:Nat):upd T d x i=if i=d then x else T i:=id rfl
def vka{d:Nat}:qG T (some d) x=upd T d x:=id rfl
def vla:qG T none x=T:=id rfl
def WL{o:Oper}{K:Env->List Ob->Prop}(k:KE P T h o K):vf P T h o K:=by
 unfold KE at k;unfold vf;cases c:qw o.op with
 | some q=>
   obtain⟨X,args⟩:=q
   have b:∃aZ a,o.op= .call ⟨.value X,aZ,a⟩/\aZ.toList=args:=by
    unfold qw at c;split at c
    ·rename_i X' aZ a d;injection c with c;injection c with h1 h2;subst h1;exact⟨aZ,a,d,h2⟩
    ·cases c
   obtain⟨aZ,a,b,has⟩:=b;rw[c] at k;simp only[Vw] at k;have d:zO P T h o.op=none:=(by rw[b];rfl);rw[d,b];simp only[vS,has];split at k
   ·rename_i f i j g;simp only[g];exact k
   ·exact k.elim
 | none=>
   rw[c] at k;simp only[JB] at k;split at k
   ·rename_i e;rw[e];exact k
   ·exact k.elim
def q7a{o:Oper}{K:Env->List Ob->Prop}(k:Q6 P T h o K):Xw P T h o K:=by
 unfold Q6 at k;unfold Xw;cases a:qw o.op with
 | none=>
   have g:vT T o.op=none:=by
    unfold vT;unfold qw at a;split
    ·rename_i c n;split
     ·rename_i X e;obtain⟨m,ar,b⟩:=c;simp only at e;subst e;rw[n] at a;cases a
     ·rfl
    ·rfl
   rw[g];refine WL ?_;unfold KE;rw[a] at k⊢;exact k
 | some q=>
   obtain⟨X,args⟩:=q
   have d:∃aZ b,o.op= .call ⟨.value X,aZ,b⟩/\aZ.toList=args:=by
    unfold qw at a;split at a
    ·rename_i X' aZ b s;injection a with a;injection a with h1 h2;subst h1;exact⟨aZ,b,s,h2⟩
    ·cases a
   obtain⟨aZ,b,d,has⟩:=d;rw[a] at k;simp only[XP] at k;split at k
   ·rename_i f p r i;have g:vT T o.op=none:=(by unfold vT;rw[d];simp only[i]);rw[g];refine WL ?_;unfold KE;rw[a];simp only[Vw,i];exact k
   ·rename_i l p r i;split at k
    ·rename_i j;have g:vT T o.op=some (l,evl T args):=(by unfold vT;rw[d];simp only[i,if_pos j,has]);rw[g];exact k
    ·exact k.elim
   ·exact k.elim
end
end
