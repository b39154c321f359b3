import Derived.Test.YtigdlmpjijhpaaaGreatKA
import Derived.Test.YtigdlmpjijhpaaaGreatK05
import Derived.Attr
set_option linter.all false
namespace Go.Proofs.YtigdlmpjijhpaaaGreat.Ax
open Go Go.RowKit
class Held (α:Type) where
 it:α
def WQ(b:Bool)[p:Held Prop][q:Held Prop]:Prop:=(b=true->p.it)/\(b=false->q.it)
theorem Zxa{p q:Prop}: @WQ true ⟨p⟩ ⟨q⟩=p:=by simp[WQ]
theorem vDa{p q:Prop}: @WQ false ⟨p⟩ ⟨q⟩=q:=by simp[WQ]
theorem ways{b:Bool}{p q:Prop}(c:b=true->p)(a:b=false->q): @WQ b ⟨p⟩ ⟨q⟩:=⟨c,a⟩
def qta(P:Program)(f:FuncId)(aZ:List AV)(h:List Ob)[k:Held (AV->List Ob->Prop)]:Prop:=ACalls P f aZ h k.it
theorem zh{P:Program}{f:FuncId}{aZ:List AV}{h:List Ob}{R K:AV->List Ob->Prop}(c:ACalls P f aZ h R)(k:∀r h',R r h'->K r h'): @qta P f aZ h ⟨K⟩:=c.mono k
def Yw(x:AV)[k:Held (Bool->Prop)]:Prop:=match x with
 | .v (.bool b)=>k.it b
 | _=>False
def Yx(x:Option (AV × List Ob))[k:Held (AV->List Ob->Prop)]:Prop:=match x with
 | some (x,h)=>k.it x h
 | none=>False
def xJa(P:Program)(x:AV)(aZ:List AV)(h:List Ob)[k:Held (AV->List Ob->Prop)]:Prop:=match x with
 | .fn (.func f) a cs=>qta P f (a++aZ++cs) h
 | _=>False
def wV(x:AV)(want:Bool)[p:Held Prop][q:Held Prop]:Prop:=match x with
 | .v (.bool b)=> @WQ (b==want) p q
 | .v (.tuple _)=>q.it
 | _=>False
def vEa(P:Program)(l:Nat)(aZ:List AV)(h:List Ob)[k:Held (List Ob->Prop)]:Prop:=Yr P l aZ h k.it
theorem JO{P:Program}{l:Nat}{aZ:List AV}{h:List Ob}{R K:List Ob->Prop}(c:Yr P l aZ h R)(k:∀h',R h'->K h'): @vEa P l aZ h ⟨K⟩:=λφ b B w g vs j hB f=>by
 obtain⟨fn,tmps,assign,body,i,d⟩:=c φ b B w g vs j hB f
 exact⟨fn,tmps,assign,body,i,λm=>(d m).mono λe w' ⟨h',g',n,o,a⟩=>⟨h',g',n,k h' o,a⟩⟩
def Yy(P:Program)(x:AV)(aZ:List AV)(h:List Ob)[k:Held (AV->List Ob->Prop)]:Prop:=match x with
 | .fn (.func f) a cs=>qta P f (a++aZ++cs) h
 | .v (.func (.yield l) a cs)=>if a.isEmpty && cs.isEmpty then @vEa P l aZ h ⟨λh'=>k.it (.v (.bool true)) h'⟩ else False
 | _=>False
def q9:Op->Option (Operand × List Operand)
 | .call { callee:= .value x,args, .. }=>some (x,args.toList)
 | _=>none
def yL(ops:Array Oper)(j:Nat)(T:Env):AV:=match (ops[j]?).bind (·.dst) with
 | some d=>T d
 | none=> .bad
def z8a(P:Program)(T:Env)(h:List Ob)(o:Oper)(K:Env->List Ob->Prop):Prop:=
 match q9 o.op with
 | some (x,args)=> @xJa P (ev T x) (evl T args) h ⟨λr h'=>K (jb T o.dst r) h'⟩
 | none=> @Yx (qf P T h o.op) ⟨λx h'=>K (jb T o.dst x) h'⟩
def WR(P:Program)(T:Env)(h:List Ob)(o:Oper)(K:Env->List Ob->Prop):Prop:=
 match q9 o.op with
 | some (x,args)=> @Yy P (ev T x) (evl T args) h ⟨λr h'=>K (jb T o.dst r) h'⟩
 | none=> @Yx (qf P T h o.op) ⟨λx h'=>K (jb T o.dst x) h'⟩
def wpR(P:Program)(ops:Array Oper)(Q:Env->List Ob->Prop):List Oper->Env->List Ob->Prop
 | [],T,h=>Q T h
 | o::r,T,h=>match o.guard with
   | none=>WR P T h o (wpR P ops Q r)
   | some (j,want)=> @wV (yL ops j T) want ⟨WR P T h o (wpR P ops Q r)⟩ ⟨wpR P ops Q r (jb T o.dst (.v undef)) h⟩
def Z6(P:Program)(N:Nat)(B:Bs)[x:Held (Code × xR)](T:Env)(h:List Ob):Prop:=AWp P N B x.it.1 x.it.2 T h
def wpC(P:Program)(N:Nat)(B:Bs):Code->xR->Env->List Ob->Prop
 | .skip,Q,T,h=>Q .normal T h
 | .label _,Q,T,h=>Q .normal T h
 | .seq a b,Q,T,h=>wpC P N B a (yQ (wpC P N B b Q) Q) T h
 | .region _ ops false,Q,T,h=>wpR P ops (Q .normal) ops.toList T h
 | .cond x a b,Q,T,h=> @Yw (ev T x) ⟨λt=> @WQ t ⟨wpC P N B a Q T h⟩ ⟨wpC P N B b Q T h⟩⟩
 | .block id c,Q,T,h=>wpC P N B c (QX id Q) T h
 | .exit id,Q,T,h=>Q (.exit id) T h
 | .ret,Q,T,h=>Q .ret T h
 | c,Q,T,h=> @Z6 P N B ⟨(c,Q)⟩ T h
def okC(N:Nat):Code->Bool
 | .seq a b=>okC N a && okC N b
 | .region _ ops _=>ops.toList.all (vu N)
 | .cond _ a b=>okC N a && okC N b
 | .block _ c=>okC N c
 | .loop c=>okC N c
 | _=>true
section
variable {P:Program} {N:Nat} {B:Bs} {T:Env} {h h':List Ob} {Q:xR} {ops:Array Oper} {K:Env->List Ob->Prop} {r:List Oper} {dst:Option Tmp} {op:Op} {type:TypeId} {pos:String} {after:Array Edge} {guard:Option (Nat × Bool)} {x:AV}
theorem Jxa{b:Bool}{k:Bool->Prop}: @Yw (.v (.bool b)) ⟨k⟩=k b:=id rfl
theorem vFa{k:AV->List Ob->Prop}: @Yx (some (x,h)) ⟨k⟩=k x h:=id rfl
theorem Jya{f:FuncId}{a cs aZ:List AV}{k:AV->List Ob->Prop}: @xJa P (.fn (.func f) a cs) aZ h ⟨k⟩= @qta P f (a++aZ++cs) h ⟨k⟩:=id rfl
theorem Jza{b want:Bool}{p q:Prop}: @wV (.v (.bool b)) want ⟨p⟩ ⟨q⟩= @WQ (b==want) ⟨p⟩ ⟨q⟩:=id rfl
theorem JAa{vs:Array Value}{want:Bool}{p q:Prop}: @wV (.v (.tuple vs)) want ⟨p⟩ ⟨q⟩=q:=id rfl
theorem Vea(a:q9 op=none):z8a P T h ⟨dst,op,type,pos,after,guard⟩ K= @Yx (qf P T h op) ⟨λx h'=>K (jb T dst x) h'⟩:=by
 unfold z8a
 rw[a]
theorem Zya{y:Operand}{args:Array Operand}{a:Array TypeId}:z8a P T h ⟨dst,.call ⟨.value y,args,a⟩,type,pos,after,guard⟩ K= @xJa P (ev T y) (evl T args.toList) h ⟨λx h'=>K (jb T dst x) h'⟩:=id rfl
theorem xKa{f:FuncId}{a cs aZ:List AV}{k:AV->List Ob->Prop}: @Yy P (.fn (.func f) a cs) aZ h ⟨k⟩= @qta P f (a++aZ++cs) h ⟨k⟩:=id rfl
theorem Vfa{l:Nat}{aZ:List AV}{k:AV->List Ob->Prop}: @Yy P (.v (.func (.yield l) #[] #[])) aZ h ⟨k⟩= @vEa P l aZ h ⟨λh'=>k (.v (.bool true)) h'⟩:=id rfl
theorem Vga(a:q9 op=none):WR P T h ⟨dst,op,type,pos,after,guard⟩ K= @Yx (qf P T h op) ⟨λx h'=>K (jb T dst x) h'⟩:=by
 unfold WR
 rw[a]
theorem Zza{y:Operand}{args:Array Operand}{a:Array TypeId}:WR P T h ⟨dst,.call ⟨.value y,args,a⟩,type,pos,after,guard⟩ K= @Yy P (ev T y) (evl T args.toList) h ⟨λr h'=>K (jb T dst r) h'⟩:=id rfl
theorem Vha{Q:Env->List Ob->Prop}:wpR P ops Q [] T h=Q T h:=id rfl
theorem JBa{Q:Env->List Ob->Prop}:wpR P ops Q (⟨dst,op,type,pos,after,none⟩::r) T h=WR P T h ⟨dst,op,type,pos,after,none⟩ (wpR P ops Q r):=id rfl
theorem JCa{Q:Env->List Ob->Prop}{j:Nat}{want:Bool}:wpR P ops Q (⟨dst,op,type,pos,after,some (j,want)⟩::r) T h= @wV (yL ops j T) want ⟨WR P T h ⟨dst,op,type,pos,after,some (j,want)⟩ (wpR P ops Q r)⟩ ⟨wpR P ops Q r (jb T dst (.v undef)) h⟩:=id rfl
theorem Yz:wpC P N B .skip Q T h=Q .normal T h:=id rfl
theorem ZAa{l:Nat}:wpC P N B (.label l) Q T h=Q .normal T h:=id rfl
theorem KQ{a b:Code}:wpC P N B (.seq a b) Q T h=wpC P N B a (yQ (wpC P N B b Q) Q) T h:=id rfl
theorem vGa{a:Nat}:wpC P N B (.region a ops false) Q T h=wpR P ops (Q .normal) ops.toList T h:=id rfl
theorem JDa{y:Operand}{a b:Code}:wpC P N B (.cond y a b) Q T h= @Yw (ev T y) ⟨λt=> @WQ t ⟨wpC P N B a Q T h⟩ ⟨wpC P N B b Q T h⟩⟩:=id rfl
theorem ZBa{i:Nat}{c:Code}:wpC P N B (.block i c) Q T h=wpC P N B c (QX i Q) T h:=id rfl
theorem JEa{i:Nat}:wpC P N B (.exit i) Q T h=Q (.exit i) T h:=id rfl
theorem Via:wpC P N B .ret Q T h=Q .ret T h:=id rfl
theorem JFa{c:Code}:wpC P N B (.loop c) Q T h= @Z6 P N B ⟨(.loop c,Q)⟩ T h:=id rfl
theorem JGa{i:Nat}:wpC P N B (.region i ops true) Q T h= @Z6 P N B ⟨(.region i ops true,Q)⟩ T h:=id rfl
theorem jza{next:Env->List Ob->Prop}:yQ next Q .normal T h=next T h:=id rfl
theorem Vja{next:Env->List Ob->Prop}{i:Nat}:yQ next Q (.exit i) T h=Q (.exit i) T h:=id rfl
theorem Vka{next:Env->List Ob->Prop}:yQ next Q .ret T h=Q .ret T h:=id rfl
theorem JHa{i:Nat}:QX i Q .normal T h=Q .normal T h:=id rfl
theorem JIa{i:Nat}:QX i Q .ret T h=Q .ret T h:=id rfl
theorem YA{i j:Nat}:QX i Q (.exit j) T h=if j=i then Q .normal T h else Q (.exit j) T h:=id rfl
theorem qYb(T:Env)(d:Nat)(x:AV)(i:Nat):upd T d x i=if i=d then x else T i:=id rfl
theorem YNa{d:Nat}:jb T (some d) x=upd T d x:=id rfl
theorem YOa:jb T none x=T:=id rfl
theorem jAa{o:Oper}{K:Env->List Ob->Prop}(k:z8a P T h o K):yk P T h o K:=by
 unfold z8a at k
 unfold yk
 cases c:q9 o.op with
 | some q=>
   obtain⟨X,args⟩:=q
   have a:∃aZ b,o.op= .call ⟨.value X,aZ,b⟩/\aZ.toList=args:=by
    unfold q9 at c
    split at c
    ·rename_i X' aZ b d
     injection c with c
     injection c with h1 h2
     subst h1
     exact⟨aZ,b,d,h2⟩
    ·cases c
   obtain⟨aZ,b,a,has⟩:=a
   rw[c] at k
   simp only[xJa] at k
   have d:qf P T h o.op=none:=by rw[a];rfl
   rw[d,a]
   simp only[Zj,has]
   split at k
   ·rename_i f i cs g;simp only[g];exact k
   ·exact k.elim
 | none=>
   rw[c] at k
   simp only[Yx] at k
   split at k
   ·rename_i e;rw[e];exact k
   ·exact k.elim
theorem JJa{o:Oper}{K:Env->List Ob->Prop}(k:WR P T h o K):Ys P T h o K:=by
 unfold WR at k
 unfold Ys
 cases a:q9 o.op with
 | none=>
   have g:yK T o.op=none:=by
    unfold yK
    unfold q9 at a
    split
    ·rename_i c p
     split
     ·rename_i X e
      obtain⟨m,ar,b⟩:=c
      simp only at e
      subst e
      rw[p] at a
      cases a
     ·rfl
    ·rfl
   rw[g]
   refine jAa ?_
   unfold z8a
   rw[a] at k⊢
   exact k
 | some q=>
   obtain⟨X,args⟩:=q
   have d:∃aZ b,o.op= .call ⟨.value X,aZ,b⟩/\aZ.toList=args:=by
    unfold q9 at a
    split at a
    ·rename_i X' aZ b n
     injection a with a
     injection a with h1 h2
     subst h1
     exact⟨aZ,b,n,h2⟩
    ·cases a
   obtain⟨aZ,b,d,has⟩:=d
   rw[a] at k
   simp only[Yy] at k
   split at k
   ·rename_i f r cs i
    have g:yK T o.op=none:=by unfold yK;rw[d];simp only[i]
    rw[g]
    refine jAa ?_
    unfold z8a
    rw[a]
    simp only[xJa,i]
    exact k
   ·rename_i l r cs i
    split at k
    ·rename_i j
     have g:yK T o.op=some (l,evl T args):=by unfold yK;rw[d];simp only[i,if_pos j,has]
     rw[g]
     exact k
    ·exact k.elim
   ·exact k.elim
end
