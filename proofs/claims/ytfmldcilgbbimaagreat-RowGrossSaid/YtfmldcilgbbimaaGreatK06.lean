/-
  Joined.
-/
import Derived.Test.YtfmldcilgbbimaaGreatK05
import Derived.Attr
set_option linter.unusedSimpArgs false
set_option linter.unusedVariables false
namespace Go.Proofs.YtfmldcilgbbimaaGreat.Ax
open Go Go.RowKit
class Held (α:Type) where
 it:α
def JD (b:Bool) [p:Held Prop] [q:Held Prop]:Prop:=(b=true->p.it)/\(b=false->q.it)
theorem q5a {p q:Prop}: @JD true ⟨p⟩ ⟨q⟩=p:=by simp[JD]
theorem YR {p q:Prop}: @JD false ⟨p⟩ ⟨q⟩=q:=by simp[JD]
theorem ways {b:Bool} {p q:Prop} (c:b=true->p) (a:b=false->q): @JD b ⟨p⟩ ⟨q⟩:=⟨c,a⟩
def Wp (P:Program) (f:FuncId) (aZ:List AV) (h:List Ob) [k:Held (AV->List Ob->Prop)]:Prop:=ACalls P f aZ h k.it
theorem zd {P:Program} {f:FuncId} {aZ:List AV} {h:List Ob} {R K:AV->List Ob->Prop} (c:ACalls P f aZ h R) (k:∀r h',R r h'->K r h'): @Wp P f aZ h ⟨K⟩:=c.mono k
def Xd (x:AV) [k:Held (Bool->Prop)]:Prop:=match x with
 | .v (.bool b)=>k.it b
 | _=>False
def Xe (x:Option (AV × List Ob)) [k:Held (AV->List Ob->Prop)]:Prop:=match x with
 | some (x,h)=>k.it x h
 | none=>False
def Wq (P:Program) (x:AV) (aZ:List AV) (h:List Ob) [k:Held (AV->List Ob->Prop)]:Prop:=match x with
 | .fn (.func f) a b=>Wp P f (a++aZ++b) h
 | _=>False
def xK (x:AV) (a:Bool) [p:Held Prop] [q:Held Prop]:Prop:=match x with
 | .v (.bool b)=> @JD (b==a) p q
 | .v (.tuple _)=>q.it
 | _=>False
def YS (P:Program) (l:Nat) (aZ:List AV) (h:List Ob) [k:Held (List Ob->Prop)]:Prop:=J8 P l aZ h k.it
theorem yC {P:Program} {l:Nat} {aZ:List AV} {h:List Ob} {R K:List Ob->Prop} (c:J8 P l aZ h R) (k:∀h',R h'->K h'): @YS P l aZ h ⟨K⟩:=λφ d B w g vs o hB f=>by
 obtain ⟨fn,tmps,assign,body,j,b⟩:=c φ d B w g vs o hB f
 exact ⟨fn,tmps,assign,body,j,λm=>(b m).mono λe w' ⟨h',g',n,a,i⟩=>⟨h',g',n,k h' a,i⟩⟩
def KI (P:Program) (x:AV) (aZ:List AV) (h:List Ob) [k:Held (AV->List Ob->Prop)]:Prop:=match x with
 | .fn (.func f) a b=>Wp P f (a++aZ++b) h
 | .v (.func (.yield l) a b)=>if a.isEmpty && b.isEmpty then @YS P l aZ h ⟨λh'=>k.it (.v (.bool true)) h'⟩ else False
 | _=>False
def zG:Op->Option (Operand × List Operand)
 | .call { callee:= .value x,args, .. }=>some (x,args.toList)
 | _=>none
def kB (ops:Array Oper) (j:Nat) (T:Env):AV:=match (ops[j]?).bind (·.dst) with
 | some d=>T d
 | none=> .bad
def VA (P:Program) (T:Env) (h:List Ob) (o:Oper) (K:Env->List Ob->Prop):Prop:=
 match zG o.op with
 | some (x,args)=> @Wq P (ev T x) (evl T args) h ⟨λr h'=>K (zL T o.dst r) h'⟩
 | none=> @Xe (zn P T h o.op) ⟨λx h'=>K (zL T o.dst x) h'⟩
def JE (P:Program) (T:Env) (h:List Ob) (o:Oper) (K:Env->List Ob->Prop):Prop:=
 match zG o.op with
 | some (x,args)=> @KI P (ev T x) (evl T args) h ⟨λr h'=>K (zL T o.dst r) h'⟩
 | none=> @Xe (zn P T h o.op) ⟨λx h'=>K (zL T o.dst x) h'⟩
def wpR (P:Program) (ops:Array Oper) (Q:Env->List Ob->Prop):List Oper->Env->List Ob->Prop
 | [],T,h=>Q T h
 | o::r,T,h=>match o.guard with
   | none=>JE P T h o (wpR P ops Q r)
   | some (j,a)=> @xK (kB ops j T) a ⟨JE P T h o (wpR P ops Q r)⟩ ⟨wpR P ops Q r (zL T o.dst (.v undef)) h⟩
def we (P:Program) (N:Nat) (B:Bs) [x:Held (Code × jl)] (T:Env) (h:List Ob):Prop:=AWp P N B x.it.1 x.it.2 T h
def wpC (P:Program) (N:Nat) (B:Bs):Code->jl->Env->List Ob->Prop
 | .skip,Q,T,h=>Q .normal T h
 | .label _,Q,T,h=>Q .normal T h
 | .seq a b,Q,T,h=>wpC P N B a (kH (wpC P N B b Q) Q) T h
 | .region _ ops false,Q,T,h=>wpR P ops (Q .normal) ops.toList T h
 | .cond x a b,Q,T,h=> @Xd (ev T x) ⟨λt=> @JD t ⟨wpC P N B a Q T h⟩ ⟨wpC P N B b Q T h⟩⟩
 | .block id c,Q,T,h=>wpC P N B c (wM id Q) T h
 | .exit id,Q,T,h=>Q (.exit id) T h
 | .ret,Q,T,h=>Q .ret T h
 | c,Q,T,h=> @we P N B ⟨(c,Q)⟩ T h
def okC (N:Nat):Code->Bool
 | .seq a b=>okC N a && okC N b
 | .region _ ops _=>ops.toList.all (kY N)
 | .cond _ a b=>okC N a && okC N b
 | .block _ c=>okC N c
 | .loop c=>okC N c
 | _=>true
section
variable {P:Program} {N:Nat} {B:Bs} {T:Env} {h h':List Ob} {Q:jl} {ops:Array Oper} {K:Env->List Ob->Prop} {r:List Oper} {dst:Option Tmp} {op:Op} {type:TypeId} {pos:String} {after:Array Edge} {guard:Option (Nat × Bool)} {x:AV}
theorem xFa {b:Bool} {k:Bool->Prop}: @Xd (.v (.bool b)) ⟨k⟩=k b:=id rfl
theorem YT {k:AV->List Ob->Prop}: @Xe (some (x,h)) ⟨k⟩=k x h:=id rfl
theorem xGa {f:FuncId} {a b aZ:List AV} {k:AV->List Ob->Prop}: @Wq P (.fn (.func f) a b) aZ h ⟨k⟩= @Wp P f (a++aZ++b) h ⟨k⟩:=id rfl
theorem xHa {b a:Bool} {p q:Prop}: @xK (.v (.bool b)) a ⟨p⟩ ⟨q⟩= @JD (b==a) ⟨p⟩ ⟨q⟩:=id rfl
theorem xIa {vs:Array Value} {a:Bool} {p q:Prop}: @xK (.v (.tuple vs)) a ⟨p⟩ ⟨q⟩=q:=id rfl
theorem vPa (a:zG op=none):VA P T h ⟨dst,op,type,pos,after,guard⟩ K= @Xe (zn P T h op) ⟨λx h'=>K (zL T dst x) h'⟩:=by
 unfold VA
 rw[a]
theorem q6a {y:Operand} {args:Array Operand} {a:Array TypeId}:VA P T h ⟨dst,.call ⟨.value y,args,a⟩,type,pos,after,guard⟩ K= @Wq P (ev T y) (evl T args.toList) h ⟨λx h'=>K (zL T dst x) h'⟩:=id rfl
theorem xJa {f:FuncId} {a b aZ:List AV} {k:AV->List Ob->Prop}: @KI P (.fn (.func f) a b) aZ h ⟨k⟩= @Wp P f (a++aZ++b) h ⟨k⟩:=id rfl
theorem vQa {l:Nat} {aZ:List AV} {k:AV->List Ob->Prop}: @KI P (.v (.func (.yield l) #[] #[])) aZ h ⟨k⟩= @YS P l aZ h ⟨λh'=>k (.v (.bool true)) h'⟩:=id rfl
theorem vRa (a:zG op=none):JE P T h ⟨dst,op,type,pos,after,guard⟩ K= @Xe (zn P T h op) ⟨λx h'=>K (zL T dst x) h'⟩:=by
 unfold JE
 rw[a]
theorem q7a {y:Operand} {args:Array Operand} {a:Array TypeId}:JE P T h ⟨dst,.call ⟨.value y,args,a⟩,type,pos,after,guard⟩ K= @KI P (ev T y) (evl T args.toList) h ⟨λr h'=>K (zL T dst r) h'⟩:=id rfl
theorem vSa {Q:Env->List Ob->Prop}:wpR P ops Q [] T h=Q T h:=id rfl
theorem xKa {Q:Env->List Ob->Prop}:wpR P ops Q (⟨dst,op,type,pos,after,none⟩::r) T h=JE P T h ⟨dst,op,type,pos,after,none⟩ (wpR P ops Q r):=id rfl
theorem xLa {Q:Env->List Ob->Prop} {j:Nat} {a:Bool}:wpR P ops Q (⟨dst,op,type,pos,after,some (j,a)⟩::r) T h= @xK (kB ops j T) a ⟨JE P T h ⟨dst,op,type,pos,after,some (j,a)⟩ (wpR P ops Q r)⟩ ⟨wpR P ops Q r (zL T dst (.v undef)) h⟩:=id rfl
theorem Xf:wpC P N B .skip Q T h=Q .normal T h:=id rfl
theorem q8a {l:Nat}:wpC P N B (.label l) Q T h=Q .normal T h:=id rfl
theorem Qc {a b:Code}:wpC P N B (.seq a b) Q T h=wpC P N B a (kH (wpC P N B b Q) Q) T h:=id rfl
theorem YU {a:Nat}:wpC P N B (.region a ops false) Q T h=wpR P ops (Q .normal) ops.toList T h:=id rfl
theorem xMa {y:Operand} {a b:Code}:wpC P N B (.cond y a b) Q T h= @Xd (ev T y) ⟨λt=> @JD t ⟨wpC P N B a Q T h⟩ ⟨wpC P N B b Q T h⟩⟩:=id rfl
theorem q9a {i:Nat} {c:Code}:wpC P N B (.block i c) Q T h=wpC P N B c (wM i Q) T h:=id rfl
theorem xNa {i:Nat}:wpC P N B (.exit i) Q T h=Q (.exit i) T h:=id rfl
theorem vTa:wpC P N B .ret Q T h=Q .ret T h:=id rfl
theorem xOa {c:Code}:wpC P N B (.loop c) Q T h= @we P N B ⟨(.loop c,Q)⟩ T h:=id rfl
theorem xPa {i:Nat}:wpC P N B (.region i ops true) Q T h= @we P N B ⟨(.region i ops true,Q)⟩ T h:=id rfl
theorem VB {next:Env->List Ob->Prop}:kH next Q .normal T h=next T h:=id rfl
theorem vUa {next:Env->List Ob->Prop} {i:Nat}:kH next Q (.exit i) T h=Q (.exit i) T h:=id rfl
theorem vVa {next:Env->List Ob->Prop}:kH next Q .ret T h=Q .ret T h:=id rfl
theorem xQa {i:Nat}:wM i Q .normal T h=Q .normal T h:=id rfl
theorem xRa {i:Nat}:wM i Q .ret T h=Q .ret T h:=id rfl
theorem Xg {i j:Nat}:wM i Q (.exit j) T h=if j=i then Q .normal T h else Q (.exit j) T h:=id rfl
theorem Qha (T:Env) (d:Nat) (x:AV) (i:Nat):upd T d x i=if i=d then x else T i:=id rfl
theorem yFa {d:Nat}:zL T (some d) x=upd T d x:=id rfl
theorem yGa:zL T none x=T:=id rfl
theorem YV {o:Oper} {K:Env->List Ob->Prop} (k:VA P T h o K):xS P T h o K:=by
 unfold VA at k
 unfold xS
 cases c:zG o.op with
 | some q=>
   obtain ⟨X,args⟩:=q
   have a:∃aZ b,o.op= .call ⟨.value X,aZ,b⟩/\aZ.toList=args:=by
    unfold zG at c
    split at c
    ·rename_i X' aZ b d
     injection c with c
     injection c with h1 h2
     subst h1
     exact ⟨aZ,b,d,h2⟩
    ·cases c
   obtain ⟨aZ,b,a,has⟩:=a
   rw[c] at k
   simp only[Wq] at k
   have d:zn P T h o.op=none:=by rw[a];rfl
   rw[d,a]
   simp only[vf,has]
   split at k
   ·rename_i f i j g;simp only[g];exact k
   ·exact k.elim
 | none=>
   rw[c] at k
   simp only[Xe] at k
   split at k
   ·rename_i e;rw[e];exact k
   ·exact k.elim
theorem xSa {o:Oper} {K:Env->List Ob->Prop} (k:JE P T h o K):J9 P T h o K:=by
 unfold JE at k
 unfold J9
 cases a:zG o.op with
 | none=>
   have g:kA T o.op=none:=by
    unfold kA
    unfold zG at a
    split
    ·rename_i c m
     split
     ·rename_i X e
      obtain ⟨r,ar,b⟩:=c
      simp only at e
      subst e
      rw[m] at a
      cases a
     ·rfl
    ·rfl
   rw[g]
   refine YV ?_
   unfold VA
   rw[a] at k⊢
   exact k
 | some q=>
   obtain ⟨X,args⟩:=q
   have d:∃aZ b,o.op= .call ⟨.value X,aZ,b⟩/\aZ.toList=args:=by
    unfold zG at a
    split at a
    ·rename_i X' aZ b p
     injection a with a
     injection a with h1 h2
     subst h1
     exact ⟨aZ,b,p,h2⟩
    ·cases a
   obtain ⟨aZ,b,d,has⟩:=d
   rw[a] at k
   simp only[KI] at k
   split at k
   ·rename_i f n s i
    have g:kA T o.op=none:=by unfold kA;rw[d];simp only[i]
    rw[g]
    refine YV ?_
    unfold VA
    rw[a]
    simp only[Wq,i]
    exact k
   ·rename_i l n s i
    split at k
    ·rename_i j
     have g:kA T o.op=some (l,evl T args):=by unfold kA;rw[d];simp only[i,if_pos j,has]
     rw[g]
     exact k
    ·exact k.elim
   ·exact k.elim
end
end Go.Proofs.YtfmldcilgbbimaaGreat.Ax
