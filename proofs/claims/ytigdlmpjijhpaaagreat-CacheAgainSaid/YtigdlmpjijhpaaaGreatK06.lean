import Derived.Test.YtigdlmpjijhpaaaGreatKA
import Derived.Test.YtigdlmpjijhpaaaGreatK05
import Derived.Attr
set_option linter.all false
namespace Go.Proofs.YtigdlmpjijhpaaaGreat.Ax
open Go Go.RowKit
class Held (α:Type) where
 it:α
def WT(b:Bool)[p:Held Prop][q:Held Prop]:Prop:=(b=true->p.it)/\(b=false->q.it)
theorem ZEa{p q:Prop}: @WT true ⟨p⟩ ⟨q⟩=p:=by simp[WT]
theorem vJa{p q:Prop}: @WT false ⟨p⟩ ⟨q⟩=q:=by simp[WT]
theorem ways{b:Bool}{p q:Prop}(a:b=true->p)(c:b=false->q): @WT b ⟨p⟩ ⟨q⟩:=⟨a,c⟩
def qxa(P:Program)(f:FuncId)(aZ:List AV)(h:List Ob)[k:Held (AV->List Ob->Prop)]:Prop:=ACalls P f aZ h k.it
theorem zg{P:Program}{f:FuncId}{aZ:List AV}{h:List Ob}{R K:AV->List Ob->Prop}(c:ACalls P f aZ h R)(k:∀r h',R r h'->K r h'): @qxa P f aZ h ⟨K⟩:=c.mono k
def Yy(x:AV)[k:Held (Bool->Prop)]:Prop:=match x with
 | .v (.bool b)=>k.it b
 | _=>False
def Yz(x:Option (AV × List Ob))[k:Held (AV->List Ob->Prop)]:Prop:=match x with
 | some (x,h)=>k.it x h
 | none=>False
def xMa(P:Program)(x:AV)(aZ:List AV)(h:List Ob)[k:Held (AV->List Ob->Prop)]:Prop:=match x with
 | .fn (.func f) a cs=>qxa P f (a++aZ++cs) h
 | _=>False
def wW(x:AV)(want:Bool)[p:Held Prop][q:Held Prop]:Prop:=match x with
 | .v (.bool b)=> @WT (b==want) p q
 | .v (.tuple _)=>q.it
 | _=>False
def vKa(P:Program)(l:Nat)(aZ:List AV)(h:List Ob)[k:Held (List Ob->Prop)]:Prop:=Yt P l aZ h k.it
theorem JQ{P:Program}{l:Nat}{aZ:List AV}{h:List Ob}{R K:List Ob->Prop}(c:Yt P l aZ h R)(k:∀h',R h'->K h'): @vKa P l aZ h ⟨K⟩:=λφ n B w g vs a hB d=>by
 obtain⟨fn,tmps,assign,body,j,i⟩:=c φ n B w g vs a hB d
 exact⟨fn,tmps,assign,body,j,λm=>(i m).mono λe w' ⟨h',g',o,b,f⟩=>⟨h',g',o,k h' b,f⟩⟩
def YA(P:Program)(x:AV)(aZ:List AV)(h:List Ob)[k:Held (AV->List Ob->Prop)]:Prop:=match x with
 | .fn (.func f) a cs=>qxa P f (a++aZ++cs) h
 | .v (.func (.yield l) a cs)=>if a.isEmpty && cs.isEmpty then @vKa P l aZ h ⟨λh'=>k.it (.v (.bool true)) h'⟩ else False
 | _=>False
def q8:Op->Option (Operand × List Operand)
 | .call { callee:= .value x,args, .. }=>some (x,args.toList)
 | _=>none
def yN(ops:Array Oper)(j:Nat)(T:Env):AV:=match (ops[j]?).bind (·.dst) with
 | some d=>T d
 | none=> .bad
def qba(P:Program)(T:Env)(h:List Ob)(o:Oper)(K:Env->List Ob->Prop):Prop:=
 match q8 o.op with
 | some (x,args)=> @xMa P (ev T x) (evl T args) h ⟨λr h'=>K (jc T o.dst r) h'⟩
 | none=> @Yz (qh P T h o.op) ⟨λx h'=>K (jc T o.dst x) h'⟩
def WU(P:Program)(T:Env)(h:List Ob)(o:Oper)(K:Env->List Ob->Prop):Prop:=
 match q8 o.op with
 | some (x,args)=> @YA P (ev T x) (evl T args) h ⟨λr h'=>K (jc T o.dst r) h'⟩
 | none=> @Yz (qh P T h o.op) ⟨λx h'=>K (jc T o.dst x) h'⟩
def wpR(P:Program)(ops:Array Oper)(Q:Env->List Ob->Prop):List Oper->Env->List Ob->Prop
 | [],T,h=>Q T h
 | o::r,T,h=>match o.guard with
   | none=>WU P T h o (wpR P ops Q r)
   | some (j,want)=> @wW (yN ops j T) want ⟨WU P T h o (wpR P ops Q r)⟩ ⟨wpR P ops Q r (jc T o.dst (.v undef)) h⟩
def Z7(P:Program)(N:Nat)(B:Bs)[x:Held (Code × xV)](T:Env)(h:List Ob):Prop:=AWp P N B x.it.1 x.it.2 T h
def wpC(P:Program)(N:Nat)(B:Bs):Code->xV->Env->List Ob->Prop
 | .skip,Q,T,h=>Q .normal T h
 | .label _,Q,T,h=>Q .normal T h
 | .seq a b,Q,T,h=>wpC P N B a (yS (wpC P N B b Q) Q) T h
 | .region _ ops false,Q,T,h=>wpR P ops (Q .normal) ops.toList T h
 | .cond x a b,Q,T,h=> @Yy (ev T x) ⟨λt=> @WT t ⟨wpC P N B a Q T h⟩ ⟨wpC P N B b Q T h⟩⟩
 | .block id c,Q,T,h=>wpC P N B c (QZ id Q) T h
 | .exit id,Q,T,h=>Q (.exit id) T h
 | .ret,Q,T,h=>Q .ret T h
 | c,Q,T,h=> @Z7 P N B ⟨(c,Q)⟩ T h
def okC(N:Nat):Code->Bool
 | .seq a b=>okC N a && okC N b
 | .region _ ops _=>ops.toList.all (vv N)
 | .cond _ a b=>okC N a && okC N b
 | .block _ c=>okC N c
 | .loop c=>okC N c
 | _=>true
section
variable {P:Program} {N:Nat} {B:Bs} {T:Env} {h h':List Ob} {Q:xV} {ops:Array Oper} {K:Env->List Ob->Prop} {r:List Oper} {dst:Option Tmp} {op:Op} {type:TypeId} {pos:String} {after:Array Edge} {guard:Option (Nat × Bool)} {x:AV}
theorem JHa{b:Bool}{k:Bool->Prop}: @Yy (.v (.bool b)) ⟨k⟩=k b:=id rfl
theorem vLa{k:AV->List Ob->Prop}: @Yz (some (x,h)) ⟨k⟩=k x h:=id rfl
theorem JIa{f:FuncId}{a cs aZ:List AV}{k:AV->List Ob->Prop}: @xMa P (.fn (.func f) a cs) aZ h ⟨k⟩= @qxa P f (a++aZ++cs) h ⟨k⟩:=id rfl
theorem JJa{b want:Bool}{p q:Prop}: @wW (.v (.bool b)) want ⟨p⟩ ⟨q⟩= @WT (b==want) ⟨p⟩ ⟨q⟩:=id rfl
theorem JKa{vs:Array Value}{want:Bool}{p q:Prop}: @wW (.v (.tuple vs)) want ⟨p⟩ ⟨q⟩=q:=id rfl
theorem Vra(a:q8 op=none):qba P T h ⟨dst,op,type,pos,after,guard⟩ K= @Yz (qh P T h op) ⟨λx h'=>K (jc T dst x) h'⟩:=by
 unfold qba
 rw[a]
theorem ZFa{y:Operand}{args:Array Operand}{a:Array TypeId}:qba P T h ⟨dst,.call ⟨.value y,args,a⟩,type,pos,after,guard⟩ K= @xMa P (ev T y) (evl T args.toList) h ⟨λx h'=>K (jc T dst x) h'⟩:=id rfl
theorem xNa{f:FuncId}{a cs aZ:List AV}{k:AV->List Ob->Prop}: @YA P (.fn (.func f) a cs) aZ h ⟨k⟩= @qxa P f (a++aZ++cs) h ⟨k⟩:=id rfl
theorem Vsa{l:Nat}{aZ:List AV}{k:AV->List Ob->Prop}: @YA P (.v (.func (.yield l) #[] #[])) aZ h ⟨k⟩= @vKa P l aZ h ⟨λh'=>k (.v (.bool true)) h'⟩:=id rfl
theorem Vta(a:q8 op=none):WU P T h ⟨dst,op,type,pos,after,guard⟩ K= @Yz (qh P T h op) ⟨λx h'=>K (jc T dst x) h'⟩:=by
 unfold WU
 rw[a]
theorem ZGa{y:Operand}{args:Array Operand}{a:Array TypeId}:WU P T h ⟨dst,.call ⟨.value y,args,a⟩,type,pos,after,guard⟩ K= @YA P (ev T y) (evl T args.toList) h ⟨λr h'=>K (jc T dst r) h'⟩:=id rfl
theorem Vua{Q:Env->List Ob->Prop}:wpR P ops Q [] T h=Q T h:=id rfl
theorem JLa{Q:Env->List Ob->Prop}:wpR P ops Q (⟨dst,op,type,pos,after,none⟩::r) T h=WU P T h ⟨dst,op,type,pos,after,none⟩ (wpR P ops Q r):=id rfl
theorem JMa{Q:Env->List Ob->Prop}{j:Nat}{want:Bool}:wpR P ops Q (⟨dst,op,type,pos,after,some (j,want)⟩::r) T h= @wW (yN ops j T) want ⟨WU P T h ⟨dst,op,type,pos,after,some (j,want)⟩ (wpR P ops Q r)⟩ ⟨wpR P ops Q r (jc T dst (.v undef)) h⟩:=id rfl
theorem YB:wpC P N B .skip Q T h=Q .normal T h:=id rfl
theorem ZHa{l:Nat}:wpC P N B (.label l) Q T h=Q .normal T h:=id rfl
theorem KR{a b:Code}:wpC P N B (.seq a b) Q T h=wpC P N B a (yS (wpC P N B b Q) Q) T h:=id rfl
theorem vMa{a:Nat}:wpC P N B (.region a ops false) Q T h=wpR P ops (Q .normal) ops.toList T h:=id rfl
theorem JNa{y:Operand}{a b:Code}:wpC P N B (.cond y a b) Q T h= @Yy (ev T y) ⟨λt=> @WT t ⟨wpC P N B a Q T h⟩ ⟨wpC P N B b Q T h⟩⟩:=id rfl
theorem ZIa{i:Nat}{c:Code}:wpC P N B (.block i c) Q T h=wpC P N B c (QZ i Q) T h:=id rfl
theorem JOa{i:Nat}:wpC P N B (.exit i) Q T h=Q (.exit i) T h:=id rfl
theorem Vva:wpC P N B .ret Q T h=Q .ret T h:=id rfl
theorem JPa{c:Code}:wpC P N B (.loop c) Q T h= @Z7 P N B ⟨(.loop c,Q)⟩ T h:=id rfl
theorem JQa{i:Nat}:wpC P N B (.region i ops true) Q T h= @Z7 P N B ⟨(.region i ops true,Q)⟩ T h:=id rfl
theorem jDa{next:Env->List Ob->Prop}:yS next Q .normal T h=next T h:=id rfl
theorem Vwa{next:Env->List Ob->Prop}{i:Nat}:yS next Q (.exit i) T h=Q (.exit i) T h:=id rfl
theorem Vxa{next:Env->List Ob->Prop}:yS next Q .ret T h=Q .ret T h:=id rfl
theorem JRa{i:Nat}:QZ i Q .normal T h=Q .normal T h:=id rfl
theorem JSa{i:Nat}:QZ i Q .ret T h=Q .ret T h:=id rfl
theorem YC{i j:Nat}:QZ i Q (.exit j) T h=if j=i then Q .normal T h else Q (.exit j) T h:=id rfl
theorem jfb(T:Env)(d:Nat)(x:AV)(i:Nat):upd T d x i=if i=d then x else T i:=id rfl
theorem Y0a{d:Nat}:jc T (some d) x=upd T d x:=id rfl
theorem Y1a:jc T none x=T:=id rfl
theorem jEa{o:Oper}{K:Env->List Ob->Prop}(k:qba P T h o K):yl P T h o K:=by
 unfold qba at k
 unfold yl
 cases c:q8 o.op with
 | some q=>
   obtain⟨X,args⟩:=q
   have a:∃aZ b,o.op= .call ⟨.value X,aZ,b⟩/\aZ.toList=args:=by
    unfold q8 at c
    split at c
    ·rename_i X' aZ b d
     injection c with c
     injection c with h1 h2
     subst h1
     exact⟨aZ,b,d,h2⟩
    ·cases c
   obtain⟨aZ,b,a,has⟩:=a
   rw[c] at k
   simp only[xMa] at k
   have d:qh P T h o.op=none:=by rw[a];rfl
   rw[d,a]
   simp only[Zn,has]
   split at k
   ·rename_i f i cs g;simp only[g];exact k
   ·exact k.elim
 | none=>
   rw[c] at k
   simp only[Yz] at k
   split at k
   ·rename_i e;rw[e];exact k
   ·exact k.elim
theorem JTa{o:Oper}{K:Env->List Ob->Prop}(k:WU P T h o K):Yu P T h o K:=by
 unfold WU at k
 unfold Yu
 cases a:q8 o.op with
 | none=>
   have g:yM T o.op=none:=by
    unfold yM
    unfold q8 at a
    split
    ·rename_i c n
     split
     ·rename_i X e
      obtain⟨p,ar,b⟩:=c
      simp only at e
      subst e
      rw[n] at a
      cases a
     ·rfl
    ·rfl
   rw[g]
   refine jEa ?_
   unfold qba
   rw[a] at k⊢
   exact k
 | some q=>
   obtain⟨X,args⟩:=q
   have d:∃aZ b,o.op= .call ⟨.value X,aZ,b⟩/\aZ.toList=args:=by
    unfold q8 at a
    split at a
    ·rename_i X' aZ b r
     injection a with a
     injection a with h1 h2
     subst h1
     exact⟨aZ,b,r,h2⟩
    ·cases a
   obtain⟨aZ,b,d,has⟩:=d
   rw[a] at k
   simp only[YA] at k
   split at k
   ·rename_i f m cs i
    have g:yM T o.op=none:=by unfold yM;rw[d];simp only[i]
    rw[g]
    refine jEa ?_
    unfold qba
    rw[a]
    simp only[xMa,i]
    exact k
   ·rename_i l m cs i
    split at k
    ·rename_i j
     have g:yM T o.op=some (l,evl T args):=by unfold yM;rw[d];simp only[i,if_pos j,has]
     rw[g]
     exact k
    ·exact k.elim
   ·exact k.elim
end
