import Derived.Test.YtigdlmpjijhpaaaGreatBA
import Derived.Test.YtigdlmpjijhpaaaGreatB05
import Derived.Attr
set_option linter.all false
namespace Go.Proofs.YtigdlmpjijhpaaaGreat.Ax
open Go Go.RowKit
class Held (α:Type) where
 it:α
def WH(b:Bool)[p:Held Prop][q:Held Prop]:Prop:=(b=true->p.it)/\(b=false->q.it)
theorem Vq{p q:Prop}: @WH true ⟨p⟩ ⟨q⟩=p:=by simp[WH]
theorem Yl{p q:Prop}: @WH false ⟨p⟩ ⟨q⟩=q:=by simp[WH]
theorem ways{b:Bool}{p q:Prop}(c:b=true->p)(a:b=false->q): @WH b ⟨p⟩ ⟨q⟩:=⟨c,a⟩
def qwa(P:Program)(f:FuncId)(aZ:List AV)(h:List Ob)[k:Held (AV->List Ob->Prop)]:Prop:=ACalls P f aZ h k.it
theorem zg{P:Program}{f:FuncId}{aZ:List AV}{h:List Ob}{R K:AV->List Ob->Prop}(c:ACalls P f aZ h R)(k:∀r h',R r h'->K r h'): @qwa P f aZ h ⟨K⟩:=c.mono k
def Ym(x:AV)[k:Held (Bool->Prop)]:Prop:=match x with
 | .v (.bool b)=>k.it b
 | _=>False
def Wd(x:Option (AV × List Ob))[k:Held (AV->List Ob->Prop)]:Prop:=match x with
 | some (x,h)=>k.it x h
 | none=>False
def qxa(P:Program)(x:AV)(aZ:List AV)(h:List Ob)[k:Held (AV->List Ob->Prop)]:Prop:=match x with
 | .fn (.func f) a cs=>qwa P f (a++aZ++cs) h
 | _=>False
def wI(x:AV)(a:Bool)[p:Held Prop][q:Held Prop]:Prop:=match x with
 | .v (.bool b)=> @WH (b==a) p q
 | .v (.tuple _)=>q.it
 | _=>False
def vAa(P:Program)(l:Nat)(aZ:List AV)(h:List Ob)[k:Held (List Ob->Prop)]:Prop:=Yj P l aZ h k.it
theorem Jv{P:Program}{l:Nat}{aZ:List AV}{h:List Ob}{R K:List Ob->Prop}(c:Yj P l aZ h R)(k:∀h',R h'->K h'): @vAa P l aZ h ⟨K⟩:=λφ d B w g vs o hB n=>by
 obtain⟨fn,tmps,assign,body,f,a⟩:=c φ d B w g vs o hB n
 exact⟨fn,tmps,assign,body,f,λm=>(a m).mono λe w' ⟨h',g',j,b,i⟩=>⟨h',g',j,k h' b,i⟩⟩
def Yn(P:Program)(x:AV)(aZ:List AV)(h:List Ob)[k:Held (AV->List Ob->Prop)]:Prop:=match x with
 | .fn (.func f) a cs=>qwa P f (a++aZ++cs) h
 | .v (.func (.yield l) a cs)=>if a.isEmpty && cs.isEmpty then @vAa P l aZ h ⟨λh'=>k.it (.v (.bool true)) h'⟩ else False
 | _=>False
def qN:Op->Option (Operand × List Operand)
 | .call { callee:= .value x,args, .. }=>some (x,args.toList)
 | _=>none
def yu(ops:Array Oper)(j:Nat)(T:Env):AV:=match (ops[j]?).bind (·.dst) with
 | some d=>T d
 | none=> .bad
def Vr(P:Program)(T:Env)(h:List Ob)(o:Oper)(K:Env->List Ob->Prop):Prop:=
 match qN o.op with
 | some (x,args)=> @qxa P (ev T x) (evl T args) h ⟨λr h'=>K (qW T o.dst r) h'⟩
 | none=> @Wd (qc P T h o.op) ⟨λx h'=>K (qW T o.dst x) h'⟩
def WI(P:Program)(T:Env)(h:List Ob)(o:Oper)(K:Env->List Ob->Prop):Prop:=
 match qN o.op with
 | some (x,args)=> @Yn P (ev T x) (evl T args) h ⟨λr h'=>K (qW T o.dst r) h'⟩
 | none=> @Wd (qc P T h o.op) ⟨λx h'=>K (qW T o.dst x) h'⟩
def wpR(P:Program)(ops:Array Oper)(Q:Env->List Ob->Prop):List Oper->Env->List Ob->Prop
 | [],T,h=>Q T h
 | o::r,T,h=>match o.guard with
   | none=>WI P T h o (wpR P ops Q r)
   | some (j,a)=> @wI (yu ops j T) a ⟨WI P T h o (wpR P ops Q r)⟩ ⟨wpR P ops Q r (qW T o.dst (.v undef)) h⟩
def yD(P:Program)(N:Nat)(B:Bs)[x:Held (Code × jF)](T:Env)(h:List Ob):Prop:=AWp P N B x.it.1 x.it.2 T h
def wpC(P:Program)(N:Nat)(B:Bs):Code->jF->Env->List Ob->Prop
 | .skip,Q,T,h=>Q .normal T h
 | .label _,Q,T,h=>Q .normal T h
 | .seq a b,Q,T,h=>wpC P N B a (yC (wpC P N B b Q) Q) T h
 | .region _ ops false,Q,T,h=>wpR P ops (Q .normal) ops.toList T h
 | .cond x a b,Q,T,h=> @Ym (ev T x) ⟨λt=> @WH t ⟨wpC P N B a Q T h⟩ ⟨wpC P N B b Q T h⟩⟩
 | .block id c,Q,T,h=>wpC P N B c (QC id Q) T h
 | .exit id,Q,T,h=>Q (.exit id) T h
 | .ret,Q,T,h=>Q .ret T h
 | c,Q,T,h=> @yD P N B ⟨(c,Q)⟩ T h
def okC(N:Nat):Code->Bool
 | .seq a b=>okC N a && okC N b
 | .region _ ops _=>ops.toList.all (xc N)
 | .cond _ a b=>okC N a && okC N b
 | .block _ c=>okC N c
 | .loop c=>okC N c
 | _=>true
section
variable {P:Program} {N:Nat} {B:Bs} {T:Env} {h h':List Ob} {Q:jF} {ops:Array Oper} {K:Env->List Ob->Prop} {r:List Oper} {dst:Option Tmp} {op:Op} {type:TypeId} {pos:String} {after:Array Edge} {guard:Option (Nat × Bool)} {x:AV}
theorem Jba{b:Bool}{k:Bool->Prop}: @Ym (.v (.bool b)) ⟨k⟩=k b:=id rfl
theorem vBa{k:AV->List Ob->Prop}: @Wd (some (x,h)) ⟨k⟩=k x h:=id rfl
theorem Jca{f:FuncId}{a cs aZ:List AV}{k:AV->List Ob->Prop}: @qxa P (.fn (.func f) a cs) aZ h ⟨k⟩= @qwa P f (a++aZ++cs) h ⟨k⟩:=id rfl
theorem Jda{b a:Bool}{p q:Prop}: @wI (.v (.bool b)) a ⟨p⟩ ⟨q⟩= @WH (b==a) ⟨p⟩ ⟨q⟩:=id rfl
theorem Jea{vs:Array Value}{a:Bool}{p q:Prop}: @wI (.v (.tuple vs)) a ⟨p⟩ ⟨q⟩=q:=id rfl
theorem KNa(a:qN op=none):Vr P T h ⟨dst,op,type,pos,after,guard⟩ K= @Wd (qc P T h op) ⟨λx h'=>K (qW T dst x) h'⟩:=by
 unfold Vr
 rw[a]
theorem Zma{y:Operand}{args:Array Operand}{a:Array TypeId}:Vr P T h ⟨dst,.call ⟨.value y,args,a⟩,type,pos,after,guard⟩ K= @qxa P (ev T y) (evl T args.toList) h ⟨λx h'=>K (qW T dst x) h'⟩:=id rfl
theorem xBa{f:FuncId}{a cs aZ:List AV}{k:AV->List Ob->Prop}: @Yn P (.fn (.func f) a cs) aZ h ⟨k⟩= @qwa P f (a++aZ++cs) h ⟨k⟩:=id rfl
theorem KOa{l:Nat}{aZ:List AV}{k:AV->List Ob->Prop}: @Yn P (.v (.func (.yield l) #[] #[])) aZ h ⟨k⟩= @vAa P l aZ h ⟨λh'=>k (.v (.bool true)) h'⟩:=id rfl
theorem KPa(a:qN op=none):WI P T h ⟨dst,op,type,pos,after,guard⟩ K= @Wd (qc P T h op) ⟨λx h'=>K (qW T dst x) h'⟩:=by
 unfold WI
 rw[a]
theorem Zna{y:Operand}{args:Array Operand}{a:Array TypeId}:WI P T h ⟨dst,.call ⟨.value y,args,a⟩,type,pos,after,guard⟩ K= @Yn P (ev T y) (evl T args.toList) h ⟨λr h'=>K (qW T dst r) h'⟩:=id rfl
theorem KQa{Q:Env->List Ob->Prop}:wpR P ops Q [] T h=Q T h:=id rfl
theorem Jfa{Q:Env->List Ob->Prop}:wpR P ops Q (⟨dst,op,type,pos,after,none⟩::r) T h=WI P T h ⟨dst,op,type,pos,after,none⟩ (wpR P ops Q r):=id rfl
theorem Jga{Q:Env->List Ob->Prop}{j:Nat}{a:Bool}:wpR P ops Q (⟨dst,op,type,pos,after,some (j,a)⟩::r) T h= @wI (yu ops j T) a ⟨WI P T h ⟨dst,op,type,pos,after,some (j,a)⟩ (wpR P ops Q r)⟩ ⟨wpR P ops Q r (qW T dst (.v undef)) h⟩:=id rfl
theorem Yo:wpC P N B .skip Q T h=Q .normal T h:=id rfl
theorem Zoa{l:Nat}:wpC P N B (.label l) Q T h=Q .normal T h:=id rfl
theorem Kx{a b:Code}:wpC P N B (.seq a b) Q T h=wpC P N B a (yC (wpC P N B b Q) Q) T h:=id rfl
theorem vCa{a:Nat}:wpC P N B (.region a ops false) Q T h=wpR P ops (Q .normal) ops.toList T h:=id rfl
theorem Jha{y:Operand}{a b:Code}:wpC P N B (.cond y a b) Q T h= @Ym (ev T y) ⟨λt=> @WH t ⟨wpC P N B a Q T h⟩ ⟨wpC P N B b Q T h⟩⟩:=id rfl
theorem Zpa{i:Nat}{c:Code}:wpC P N B (.block i c) Q T h=wpC P N B c (QC i Q) T h:=id rfl
theorem Jia{i:Nat}:wpC P N B (.exit i) Q T h=Q (.exit i) T h:=id rfl
theorem KRa:wpC P N B .ret Q T h=Q .ret T h:=id rfl
theorem Jja{c:Code}:wpC P N B (.loop c) Q T h= @yD P N B ⟨(.loop c,Q)⟩ T h:=id rfl
theorem Jka{i:Nat}:wpC P N B (.region i ops true) Q T h= @yD P N B ⟨(.region i ops true,Q)⟩ T h:=id rfl
theorem jwa{next:Env->List Ob->Prop}:yC next Q .normal T h=next T h:=id rfl
theorem KSa{next:Env->List Ob->Prop}{i:Nat}:yC next Q (.exit i) T h=Q (.exit i) T h:=id rfl
theorem KTa{next:Env->List Ob->Prop}:yC next Q .ret T h=Q .ret T h:=id rfl
theorem Jla{i:Nat}:QC i Q .normal T h=Q .normal T h:=id rfl
theorem Jma{i:Nat}:QC i Q .ret T h=Q .ret T h:=id rfl
theorem Yp{i j:Nat}:QC i Q (.exit j) T h=if j=i then Q .normal T h else Q (.exit j) T h:=id rfl
theorem qub(T:Env)(d:Nat)(x:AV)(i:Nat):upd T d x i=if i=d then x else T i:=id rfl
theorem Yka{d:Nat}:qW T (some d) x=upd T d x:=id rfl
theorem Yla:qW T none x=T:=id rfl
theorem jxa{o:Oper}{K:Env->List Ob->Prop}(k:Vr P T h o K):wV P T h o K:=by
 unfold Vr at k
 unfold wV
 cases c:qN o.op with
 | some q=>
   obtain⟨X,args⟩:=q
   have a:∃aZ b,o.op= .call ⟨.value X,aZ,b⟩/\aZ.toList=args:=by
    unfold qN at c
    split at c
    ·rename_i X' aZ b e
     injection c with c
     injection c with h1 h2
     subst h1
     exact⟨aZ,b,e,h2⟩
    ·cases c
   obtain⟨aZ,b,a,has⟩:=a
   rw[c] at k
   simp only[qxa] at k
   have e:qc P T h o.op=none:=by rw[a];rfl
   rw[e,a]
   simp only[Zd,has]
   split at k
   ·rename_i f i cs g;simp only[g];exact k
   ·exact k.elim
 | none=>
   rw[c] at k
   simp only[Wd] at k
   split at k
   ·rename_i d;rw[d];exact k
   ·exact k.elim
theorem Jna{o:Oper}{K:Env->List Ob->Prop}(k:WI P T h o K):WG P T h o K:=by
 unfold WI at k
 unfold WG
 cases a:qN o.op with
 | none=>
   have g:yr T o.op=none:=by
    unfold yr
    unfold qN at a
    split
    ·rename_i c r
     split
     ·rename_i X e
      obtain⟨m,ar,b⟩:=c
      simp only at e
      subst e
      rw[r] at a
      cases a
     ·rfl
    ·rfl
   rw[g]
   refine jxa ?_
   unfold Vr
   rw[a] at k⊢
   exact k
 | some q=>
   obtain⟨X,args⟩:=q
   have d:∃aZ b,o.op= .call ⟨.value X,aZ,b⟩/\aZ.toList=args:=by
    unfold qN at a
    split at a
    ·rename_i X' aZ b n
     injection a with a
     injection a with h1 h2
     subst h1
     exact⟨aZ,b,n,h2⟩
    ·cases a
   obtain⟨aZ,b,d,has⟩:=d
   rw[a] at k
   simp only[Yn] at k
   split at k
   ·rename_i f p cs i
    have g:yr T o.op=none:=by unfold yr;rw[d];simp only[i]
    rw[g]
    refine jxa ?_
    unfold Vr
    rw[a]
    simp only[qxa,i]
    exact k
   ·rename_i l p cs i
    split at k
    ·rename_i j
     have g:yr T o.op=some (l,evl T args):=by unfold yr;rw[d];simp only[i,if_pos j,has]
     rw[g]
     exact k
    ·exact k.elim
   ·exact k.elim
end
