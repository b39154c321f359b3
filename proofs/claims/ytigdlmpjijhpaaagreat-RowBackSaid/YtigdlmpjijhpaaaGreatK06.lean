import Derived.Test.YtigdlmpjijhpaaaGreatKA
import Derived.Test.YtigdlmpjijhpaaaGreatK05
import Derived.Attr
set_option linter.all false
namespace Go.Proofs.YtigdlmpjijhpaaaGreat.Ax
open Go Go.RowKit
class Held (α:Type) where
 it:α
def K2(b:Bool)[p:Held Prop][q:Held Prop]:Prop:=(b=true->p.it)/\(b=false->q.it)
theorem vIa{p q:Prop}: @K2 true ⟨p⟩ ⟨q⟩=p:=by simp[K2]
theorem xja{p q:Prop}: @K2 false ⟨p⟩ ⟨q⟩=q:=by simp[K2]
theorem ways{b:Bool}{p q:Prop}(c:b=true->p)(a:b=false->q): @K2 b ⟨p⟩ ⟨q⟩:=⟨c,a⟩
def qya(P:Program)(f:FuncId)(aZ:List AV)(h:List Ob)[k:Held (AV->List Ob->Prop)]:Prop:=ACalls P f aZ h k.it
theorem zi{P:Program}{f:FuncId}{aZ:List AV}{h:List Ob}{R K:AV->List Ob->Prop}(c:ACalls P f aZ h R)(k:∀r h',R r h'->K r h'): @qya P f aZ h ⟨K⟩:=c.mono k
def VC(x:AV)[k:Held (Bool->Prop)]:Prop:=match x with
 | .v (.bool b)=>k.it b
 | _=>False
def KA(x:Option (AV × List Ob))[k:Held (AV->List Ob->Prop)]:Prop:=match x with
 | some (x,h)=>k.it x h
 | none=>False
def Yy(P:Program)(x:AV)(aZ:List AV)(h:List Ob)[k:Held (AV->List Ob->Prop)]:Prop:=match x with
 | .fn (.func f) a cs=>qya P f (a++aZ++cs) h
 | _=>False
def vV(x:AV)(a:Bool)[p:Held Prop][q:Held Prop]:Prop:=match x with
 | .v (.bool b)=> @K2 (b==a) p q
 | .v (.tuple _)=>q.it
 | _=>False
def xka(P:Program)(l:Nat)(aZ:List AV)(h:List Ob)[k:Held (List Ob->Prop)]:Prop:=Vz P l aZ h k.it
theorem Qv{P:Program}{l:Nat}{aZ:List AV}{h:List Ob}{R K:List Ob->Prop}(c:Vz P l aZ h R)(k:∀h',R h'->K h'): @xka P l aZ h ⟨K⟩:=λφ f B w g vs j hB n=>by
 obtain⟨fn,tmps,assign,body,o,b⟩:=c φ f B w g vs j hB n
 exact⟨fn,tmps,assign,body,o,λm=>(b m).mono λe w' ⟨h',g',i,d,a⟩=>⟨h',g',i,k h' d,a⟩⟩
def Yz(P:Program)(x:AV)(aZ:List AV)(h:List Ob)[k:Held (AV->List Ob->Prop)]:Prop:=match x with
 | .fn (.func f) a cs=>qya P f (a++aZ++cs) h
 | .v (.func (.yield l) a cs)=>if a.isEmpty && cs.isEmpty then @xka P l aZ h ⟨λh'=>k.it (.v (.bool true)) h'⟩ else False
 | _=>False
def qx:Op->Option (Operand × List Operand)
 | .call { callee:= .value x,args, .. }=>some (x,args.toList)
 | _=>none
def wE(ops:Array Oper)(j:Nat)(T:Env):AV:=match (ops[j]?).bind (·.dst) with
 | some d=>T d
 | none=> .bad
def K3(P:Program)(T:Env)(h:List Ob)(o:Oper)(K:Env->List Ob->Prop):Prop:=
 match qx o.op with
 | some (x,args)=> @Yy P (ev T x) (evl T args) h ⟨λr h'=>K (qK T o.dst r) h'⟩
 | none=> @KA (zW P T h o.op) ⟨λx h'=>K (qK T o.dst x) h'⟩
def K4(P:Program)(T:Env)(h:List Ob)(o:Oper)(K:Env->List Ob->Prop):Prop:=
 match qx o.op with
 | some (x,args)=> @Yz P (ev T x) (evl T args) h ⟨λr h'=>K (qK T o.dst r) h'⟩
 | none=> @KA (zW P T h o.op) ⟨λx h'=>K (qK T o.dst x) h'⟩
def wpR(P:Program)(ops:Array Oper)(Q:Env->List Ob->Prop):List Oper->Env->List Ob->Prop
 | [],T,h=>Q T h
 | o::r,T,h=>match o.guard with
   | none=>K4 P T h o (wpR P ops Q r)
   | some (j,a)=> @vV (wE ops j T) a ⟨K4 P T h o (wpR P ops Q r)⟩ ⟨wpR P ops Q r (qK T o.dst (.v undef)) h⟩
def wM(P:Program)(N:Nat)(B:Bs)[x:Held (Code × jA)](T:Env)(h:List Ob):Prop:=AWp P N B x.it.1 x.it.2 T h
def wpC(P:Program)(N:Nat)(B:Bs):Code->jA->Env->List Ob->Prop
 | .skip,Q,T,h=>Q .normal T h
 | .label _,Q,T,h=>Q .normal T h
 | .seq a b,Q,T,h=>wpC P N B a (wL (wpC P N B b Q) Q) T h
 | .region _ ops false,Q,T,h=>wpR P ops (Q .normal) ops.toList T h
 | .cond x a b,Q,T,h=> @VC (ev T x) ⟨λt=> @K2 t ⟨wpC P N B a Q T h⟩ ⟨wpC P N B b Q T h⟩⟩
 | .block id c,Q,T,h=>wpC P N B c (ZL id Q) T h
 | .exit id,Q,T,h=>Q (.exit id) T h
 | .ret,Q,T,h=>Q .ret T h
 | c,Q,T,h=> @wM P N B ⟨(c,Q)⟩ T h
def okC(N:Nat):Code->Bool
 | .seq a b=>okC N a && okC N b
 | .region _ ops _=>ops.toList.all (kC N)
 | .cond _ a b=>okC N a && okC N b
 | .block _ c=>okC N c
 | .loop c=>okC N c
 | _=>true
section
variable {P:Program} {N:Nat} {B:Bs} {T:Env} {h h':List Ob} {Q:jA} {ops:Array Oper} {K:Env->List Ob->Prop} {r:List Oper} {dst:Option Tmp} {op:Op} {type:TypeId} {pos:String} {after:Array Edge} {guard:Option (Nat × Bool)} {x:AV}
theorem yka{b:Bool}{k:Bool->Prop}: @VC (.v (.bool b)) ⟨k⟩=k b:=id rfl
theorem xla{k:AV->List Ob->Prop}: @KA (some (x,h)) ⟨k⟩=k x h:=id rfl
theorem yla{f:FuncId}{a cs aZ:List AV}{k:AV->List Ob->Prop}: @Yy P (.fn (.func f) a cs) aZ h ⟨k⟩= @qya P f (a++aZ++cs) h ⟨k⟩:=id rfl
theorem yma{b a:Bool}{p q:Prop}: @vV (.v (.bool b)) a ⟨p⟩ ⟨q⟩= @K2 (b==a) ⟨p⟩ ⟨q⟩:=id rfl
theorem yna{vs:Array Value}{a:Bool}{p q:Prop}: @vV (.v (.tuple vs)) a ⟨p⟩ ⟨q⟩=q:=id rfl
theorem QFa(a:qx op=none):K3 P T h ⟨dst,op,type,pos,after,guard⟩ K= @KA (zW P T h op) ⟨λx h'=>K (qK T dst x) h'⟩:=by
 unfold K3
 rw[a]
theorem vJa{y:Operand}{args:Array Operand}{a:Array TypeId}:K3 P T h ⟨dst,.call ⟨.value y,args,a⟩,type,pos,after,guard⟩ K= @Yy P (ev T y) (evl T args.toList) h ⟨λx h'=>K (qK T dst x) h'⟩:=id rfl
theorem yoa{f:FuncId}{a cs aZ:List AV}{k:AV->List Ob->Prop}: @Yz P (.fn (.func f) a cs) aZ h ⟨k⟩= @qya P f (a++aZ++cs) h ⟨k⟩:=id rfl
theorem QGa{l:Nat}{aZ:List AV}{k:AV->List Ob->Prop}: @Yz P (.v (.func (.yield l) #[] #[])) aZ h ⟨k⟩= @xka P l aZ h ⟨λh'=>k (.v (.bool true)) h'⟩:=id rfl
theorem QHa(a:qx op=none):K4 P T h ⟨dst,op,type,pos,after,guard⟩ K= @KA (zW P T h op) ⟨λx h'=>K (qK T dst x) h'⟩:=by
 unfold K4
 rw[a]
theorem vKa{y:Operand}{args:Array Operand}{a:Array TypeId}:K4 P T h ⟨dst,.call ⟨.value y,args,a⟩,type,pos,after,guard⟩ K= @Yz P (ev T y) (evl T args.toList) h ⟨λr h'=>K (qK T dst r) h'⟩:=id rfl
theorem QIa{Q:Env->List Ob->Prop}:wpR P ops Q [] T h=Q T h:=id rfl
theorem ypa{Q:Env->List Ob->Prop}:wpR P ops Q (⟨dst,op,type,pos,after,none⟩::r) T h=K4 P T h ⟨dst,op,type,pos,after,none⟩ (wpR P ops Q r):=id rfl
theorem yqa{Q:Env->List Ob->Prop}{j:Nat}{a:Bool}:wpR P ops Q (⟨dst,op,type,pos,after,some (j,a)⟩::r) T h= @vV (wE ops j T) a ⟨K4 P T h ⟨dst,op,type,pos,after,some (j,a)⟩ (wpR P ops Q r)⟩ ⟨wpR P ops Q r (qK T dst (.v undef)) h⟩:=id rfl
theorem VD:wpC P N B .skip Q T h=Q .normal T h:=id rfl
theorem vLa{l:Nat}:wpC P N B (.label l) Q T h=Q .normal T h:=id rfl
theorem Xl{a b:Code}:wpC P N B (.seq a b) Q T h=wpC P N B a (wL (wpC P N B b Q) Q) T h:=id rfl
theorem xma{a:Nat}:wpC P N B (.region a ops false) Q T h=wpR P ops (Q .normal) ops.toList T h:=id rfl
theorem yra{y:Operand}{a b:Code}:wpC P N B (.cond y a b) Q T h= @VC (ev T y) ⟨λt=> @K2 t ⟨wpC P N B a Q T h⟩ ⟨wpC P N B b Q T h⟩⟩:=id rfl
theorem vMa{i:Nat}{c:Code}:wpC P N B (.block i c) Q T h=wpC P N B c (ZL i Q) T h:=id rfl
theorem ysa{i:Nat}:wpC P N B (.exit i) Q T h=Q (.exit i) T h:=id rfl
theorem QJa:wpC P N B .ret Q T h=Q .ret T h:=id rfl
theorem yta{c:Code}:wpC P N B (.loop c) Q T h= @wM P N B ⟨(.loop c,Q)⟩ T h:=id rfl
theorem yua{i:Nat}:wpC P N B (.region i ops true) Q T h= @wM P N B ⟨(.region i ops true,Q)⟩ T h:=id rfl
theorem zEa{next:Env->List Ob->Prop}:wL next Q .normal T h=next T h:=id rfl
theorem QKa{next:Env->List Ob->Prop}{i:Nat}:wL next Q (.exit i) T h=Q (.exit i) T h:=id rfl
theorem QLa{next:Env->List Ob->Prop}:wL next Q .ret T h=Q .ret T h:=id rfl
theorem yva{i:Nat}:ZL i Q .normal T h=Q .normal T h:=id rfl
theorem ywa{i:Nat}:ZL i Q .ret T h=Q .ret T h:=id rfl
theorem VE{i j:Nat}:ZL i Q (.exit j) T h=if j=i then Q .normal T h else Q (.exit j) T h:=id rfl
theorem K9a(T:Env)(d:Nat)(x:AV)(i:Nat):upd T d x i=if i=d then x else T i:=id rfl
theorem X2a{d:Nat}:qK T (some d) x=upd T d x:=id rfl
theorem X3a:qK T none x=T:=id rfl
theorem xna{o:Oper}{K:Env->List Ob->Prop}(k:K3 P T h o K):wj P T h o K:=by
 unfold K3 at k
 unfold wj
 cases c:qx o.op with
 | some q=>
   obtain⟨X,args⟩:=q
   have b:∃aZ a,o.op= .call ⟨.value X,aZ,a⟩/\aZ.toList=args:=by
    unfold qx at c
    split at c
    ·rename_i X' aZ a d
     injection c with c
     injection c with h1 h2
     subst h1
     exact⟨aZ,a,d,h2⟩
    ·cases c
   obtain⟨aZ,a,b,has⟩:=b
   rw[c] at k
   simp only[Yy] at k
   have d:zW P T h o.op=none:=by rw[b];rfl
   rw[d,b]
   simp only[yf,has]
   split at k
   ·rename_i f i cs g;simp only[g];exact k
   ·exact k.elim
 | none=>
   rw[c] at k
   simp only[KA] at k
   split at k
   ·rename_i e;rw[e];exact k
   ·exact k.elim
theorem yxa{o:Oper}{K:Env->List Ob->Prop}(k:K4 P T h o K):K1 P T h o K:=by
 unfold K4 at k
 unfold K1
 cases a:qx o.op with
 | none=>
   have g:wD T o.op=none:=by
    unfold wD
    unfold qx at a
    split
    ·rename_i c m
     split
     ·rename_i X e
      obtain⟨r,ar,b⟩:=c
      simp only at e
      subst e
      rw[m] at a
      cases a
     ·rfl
    ·rfl
   rw[g]
   refine xna ?_
   unfold K3
   rw[a] at k⊢
   exact k
 | some q=>
   obtain⟨X,args⟩:=q
   have d:∃aZ b,o.op= .call ⟨.value X,aZ,b⟩/\aZ.toList=args:=by
    unfold qx at a
    split at a
    ·rename_i X' aZ b p
     injection a with a
     injection a with h1 h2
     subst h1
     exact⟨aZ,b,p,h2⟩
    ·cases a
   obtain⟨aZ,b,d,has⟩:=d
   rw[a] at k
   simp only[Yz] at k
   split at k
   ·rename_i f n cs i
    have g:wD T o.op=none:=by unfold wD;rw[d];simp only[i]
    rw[g]
    refine xna ?_
    unfold K3
    rw[a]
    simp only[Yy,i]
    exact k
   ·rename_i l n cs i
    split at k
    ·rename_i j
     have g:wD T o.op=some (l,evl T args):=by unfold wD;rw[d];simp only[i,if_pos j,has]
     rw[g]
     exact k
    ·exact k.elim
   ·exact k.elim
end
