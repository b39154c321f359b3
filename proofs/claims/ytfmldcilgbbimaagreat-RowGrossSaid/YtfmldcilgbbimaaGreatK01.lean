/-
  Joined.
-/
import Derived.Test.YtfmldcilgbbimaaGreatK00
import Derived.Laws.CopyRow
import Derived.Great.BuildSlice
import Derived.Laws.OwnMore
set_option linter.unusedSimpArgs false
set_option linter.unusedVariables false
namespace Go.Proofs.YtfmldcilgbbimaaGreat.Ax
open Go Go.RowKit
def V9:Nat->List AV
 | 0=>[]
 | n+1=> .bad::V9 n
def yl (e:Nat):Nat->List AV->List (List AV)
 | 0,_=>[]
 | n+1,l=>l.take e::yl e n (l.drop e)
def kG (place:Nat->Option (Nat × Nat)) (aZ:List AV):List (Nat × AV)->Option (List AV)
 | []=>some aZ
 | (i,a)::r=>match place i,a.cells with
   | some (off,size),some c=>if c.length=size then (lay aZ off c).bind λb=>kG place b r else none
   | _,_=>none
def Zx (P:Program) (a:List (Nat × TypeId)) (i:Nat):Option (Nat × Nat):=a[i]?.map λf=>(f.1,(zi P f.2).sz)
def vr (sz:Nat) (i:Nat):Option (Nat × Nat):=some (i*sz,sz)
def evs (T:Nat->AV):List (Nat × Operand)->List (Nat × AV)
 | []=>[]
 | (i,x)::r=>(i,ev T x)::evs T r
def evl (T:Nat->AV):List Operand->List AV
 | []=>[]
 | x::r=>ev T x::evl T r
def jo:List AV->List AV->Option Bool
 | [],[]=>some true
 | .v (.int k a)::r,.v (.int k' b)::s=>if k=k' then (jo r s).map λt=>a==b && t else none
 | _,_=>none
def xZ (P:Program):Nat->List (Nat × TypeId)->Bool
 | _,[]=>true
 | o,f::r=>f.1==o && (match (zi P f.2).kind with | .int _=>true | _=>false) && xZ P (o+1) r
def vBa (P:Program) (e:TypeId):Bool:=(match (zi P e).kind with | .int _=>true | _=>false) && (zi P e).sz==1
def q9 (P:Program) (t:TypeId):Bool:= !P.eqGuardType P.depth t && !P.stoodInHeld t && (P.fieldsOf t).toList.all λf=>f.name != "_"
def z8a:BinOp->Bool
 | .shl | .shr=>true
 | _=>false
def YG (op:BinOp) (k:IntKind) (a b:Int):Option AV:=match op with
 | .shr=>some (.v (.int k (a.fdiv (2 ^ min b.toNat k.bits))))
 | .shl=>some (.v (.int k (k.wrap (a*2 ^ min b.toNat k.bits))))
 | _=>none
def YH (op:BinOp) (k:IntKind) (a b:Int):Option AV:=match op with
 | .add=>some (.v (.int k (k.wrap (a+b))))
 | .sub=>some (.v (.int k (k.wrap (a - b))))
 | .mul=>some (.v (.int k (k.wrap (a*b))))
 | .quo=>if b=0 then none else some (.v (.int k (k.wrap (a.tdiv b))))
 | .rem=>if b=0 then none else some (.v (.int k (a.tmod b)))
 | .eql=>some (.v (.bool (a==b)))
 | .neq=>some (.v (.bool (a != b)))
 | .lss=>some (.v (.bool (decide (a<b))))
 | .leq=>some (.v (.bool (decide (a<=b))))
 | .gtr=>some (.v (.bool (decide (a>b))))
 | .geq=>some (.v (.bool (decide (a≥b))))
 | _=>none
def xja (P:Program) (op:BinOp) (t:TypeId):AV->AV->Option AV
 | .v (.int k a),.v (.int k' b)=>if z8a op then (if 0<=b then YG op k a b else none) else if k=k' then YH op k a b else none
 | .v (.bool a),.v (.bool b)=>match (zi P t).kind,op with
   | .bool,.eql=>some (.v (.bool (a==b)))
   | .bool,.neq=>some (.v (.bool (!(a==b))))
   | _,_=>none
 | .ag xs,.ag ys=>match (zi P t).kind,op with
   | .struct c,.eql=>if q9 P t && xZ P 0 c && xs.length==c.length then (jo xs ys).map λb=> .v (.bool b) else none
   | .struct c,.neq=>if q9 P t && xZ P 0 c && xs.length==c.length then (jo xs ys).map λb=> .v (.bool (!b)) else none
   | .arr n e,.eql=>if q9 P t && vBa P e && xs.length==n then (jo xs ys).map λb=> .v (.bool b) else none
   | _,_=>none
 | .v (.pointer none),.v (.pointer none)=>match (zi P t).kind,op with
   | .ptr _,.eql=>some (.v (.bool true))
   | .ptr _,.neq=>some (.v (.bool false))
   | _,_=>none
 | .ptr _ _,.v (.pointer none)=>match (zi P t).kind,op with
   | .ptr _,.eql=>some (.v (.bool false))
   | .ptr _,.neq=>some (.v (.bool true))
   | _,_=>none
 | .v (.string a),.v (.string b)=>match op with
   | .eql=>some (.v (.bool (a.toList==b.toList)))
   | .neq=>some (.v (.bool (!(a.toList==b.toList))))
   | _=>none
 | _,_=>none
def Vu:List (List AV)->Option (List UInt8)
 | []=>some []
 | [.v (.int .u8 n)]::r=>(Vu r).map (UInt8.ofNat n.toNat:: ·)
 | _=>none
def xka (P:Program) (s:TypeId) (rows:List (List AV)):Option AV:=match (zi P s).kind with
 | .slice e=>match (zi P e).kind with
   | .int .u8=>(Vu rows).map λl=> .v (.string ⟨l.toArray⟩)
   | _=>none
 | _=>none
def Wa:AV->List AV->Option AV
 | a,[]=>some a
 | .v (.int k x),.v (.int _ y)::r=>Wa (.v (.int k (if y>x then y else x))) r
 | _,_=>none
def Wb:AV->List AV->Option AV
 | a,[]=>some a
 | .v (.int k x),.v (.int _ y)::r=>Wb (.v (.int k (if y<x then y else x))) r
 | _,_=>none
def ym (h:List Ob) (τ:Ty):AV->Option AV
 | .ptr id off=>match h[id]? with
   | some (.box _ b)=>if τ.ok then part b off τ.agg τ.sz else none
   | _=>none
 | .ep a e i k=>if τ.ok/\eOf h a=some e then (zo h a).bind λxs=>xs[i]?.bind λr=>part r k τ.agg τ.sz else none
 | _=>none
def vt (h:List Ob) (ns:List AV):AV->Option (List Ob)
 | .ptr id off=>match h[id]? with
   | some (.box ty d)=>(lay d off ns).map λa=>h.set id (.box ty a)
   | _=>none
 | .ep (.tl id st) e i k=>match h[id]? with
   | some (.row ty b xs s)=>if s=st/\b=e then xs[i]?.bind λr=>(lay r k ns).map λc=>h.set id (.row ty e (xs.set i c) st) else none
   | _=>none
 | _=>none
def YI (h:List Ob) (n:Int) (a:AV):Option AV:=
 (zo h a).bind λxs=>(eOf h a).bind λe=>if 0<=n/\n<xs.length then some (.ep a e n.toNat 0) else none
def wL (P:Program) (h:List Ob) (e:TypeId) (s x:AV):Option (AV × List Ob):=
 let τ:=zi P e
 (zo h x).bind λys=>
  if τ.ok/\0<τ.sz/\(τ.zero.map List.length)=some τ.sz/\ys.all (λr=>r.length==τ.sz && r.all AV.one) then
   match s with
   | .tl id st=>match h[id]? with
     | some (.row ty a xs s)=>if s=st/\ty=e/\a=τ.sz/\(xs.length+ys.length)*(τ.bytes+1)<=140737488355328 then some (.tl id (st+1),h.set id (.row ty a (xs++ys) (st+1))) else none
     | _=>none
   | .v (.slice none 0 0)=>if ys.length*(τ.bytes+1)<=140737488355328 then some (.tl h.length 0,h++[.row e τ.sz ys 0]) else none
   | _=>none
  else none
def yAa:AV->Bool
 | .em=>true
 | _=>false
def yB:AV->Bool
 | .v (.slice none _ _)=>true
 | _=>false
def Vv:Option (List (List AV))->Option Nat->Bool
 | some (_::_),some e=>decide (0<e)
 | _,_=>false
def Zy (h:List Ob) (a:AV):Bool:=yAa a || Vv (zo h a) (eOf h a)
def JZ (op:BinOp) (b:Bool):Option AV:=match op with
 | .eql=>some (.v (.bool b))
 | .neq=>some (.v (.bool (!b)))
 | _=>none
def Wc (P:Program) (h:List Ob) (op:BinOp) (t:TypeId) (a:AV):Option AV:=match (zi P t).kind with
 | .slice _=>if yB a then JZ op true else if Zy h a then JZ op false else none
 | _=>none
def yY:Operand->Bool
 | .const (.slice none _ _)=>true
 | _=>false
def jA (h:List Ob):AV->Option (Nat × Nat × Nat × Nat)
 | .tl id st=>match h[id]? with
   | some (.row _ _ xs s)=>if s=st then some (id,st,0,xs.length) else none
   | _=>none
 | .vw (.tl id st) e i n=>match h[id]? with
   | some (.row _ a xs s)=>if s=st/\a=e/\i+n<=xs.length then some (id,st,i,n) else none
   | _=>none
 | _=>none
def jp (xs:List (List AV)) (i:Nat) (ys:List (List AV)):List (List AV):=xs.take i++ys++xs.drop (i+ys.length)
def jT (h:List Ob) (id i:Nat) (ty e:Nat) (ys:List (List AV)):Option (List Ob):=match h[id]? with
 | some (.row a b xs st)=>if a=ty/\b=e/\ys.all (λr=>r.length==e && r.all AV.one) then some (h.set id (.row a b (jp xs i ys) st)) else none
 | _=>none
def wu (P:Program) (T:Nat->AV) (h:List Ob) (c:Call):Option (AV × List Ob):=
 match c.callee,c.args.toList,c.argTypes.toList with
 | .builtin .len,[x],[t]=>match (zi P t).kind with
   | .slice _=>(zo h (ev T x)).map λxs=>(.v (.int .i64 xs.length),h)
   | _=>none
 | .builtin .append,[s,x],[t,a]=>match (zi P t).kind with
   | .slice e=>if a=t then wL P h e (ev T s) (ev T x) else none
   | _=>none
 | .builtin .clear,[x],[t]=>match (zi P t).kind with
   | .slice e=>(jA h (ev T x)).bind λ(id,_,i,n)=>(zi P e).zero.bind λz=>
     if (zi P e).ok/\z.length=(zi P e).sz then (jT h id i e (zi P e).sz (List.replicate n (z.map .v))).map λh'=>(.tup [],h') else none
   | _=>none
 | .builtin .copy,[d,x],[t,a]=>match (zi P t).kind with
   | .slice e=>if a=t/\(zi P e).ok/\0<(zi P e).sz then (jA h (ev T d)).bind λ(id,_,i,n)=>(zo h (ev T x)).bind λys=>
     (jT h id i e (zi P e).sz (ys.take n)).map λh'=>(.v (.int .i64 ((ys.take n).length:Nat)),h') else none
   | _=>none
 | .builtin .max,x::r,_=>(Wa (ev T x) (evl T r)).map (·,h)
 | .builtin .min,x::r,_=>(Wb (ev T x) (evl T r)).map (·,h)
 | _,_,_=>none
def z9a (τ:Ty):Option AV:=if τ.one then τ.zero.bind λz=>z.head?.map .v else none
def qg (P:Program) (T:Nat->AV):Op->Option (Ob × (Nat->AV))
 | .alloc t=>if (zi P t).ok then (zi P t).zero.map λz=>(.box t (z.map .v),λi=> .ptr i 0) else none
 | .box t x=>(ev T x).cells.map λa=>(.box t a,λi=> .ptr i 0)
 | .buildSlice t n b=>match (zi P t).kind with
   | .slice e=>if (zi P e).ok/\0<(zi P e).sz/\n*(zi P e).sz<=16777216/\(zi P e).zero.isSome then
     (kG (vr (zi P e).sz) (V9 (n*(zi P e).sz)) (evs T b.toList)).map λa=>(.row e (zi P e).sz (yl (zi P e).sz n a) 0,λi=> .tl i 0) else none
   | _=>none
 | .makeSlice t l c=>match (zi P t).kind,ev T l,ev T c with
   | .slice e,.v (.int _ n),.v (.int _ m)=>if n=m/\0<=n/\n*((zi P e).bytes+1)<=140737488355328/\(zi P e).ok/\0<(zi P e).sz/\((zi P e).zero.map List.length)=some (zi P e).sz then
     (zi P e).zero.map λz=>(.row e (zi P e).sz (List.replicate n.toNat (z.map .v)) 0,λi=> .tl i 0) else none
   | _,_,_=>none
 | .makeMap t none=>match (zi P t).kind with
   | .mapk _ _=>some (.mapo [],λi=> .mp i)
   | _=>none
 | _=>none
def jB:AV × AV->Int
 | (.v (.int _ m),_)=>m
 | _=>0
def jP (kk:IntKind):List (AV × AV)->Bool
 | []=>true
 | (.v (.int k _),_)::r=>k==kk && jP kk r
 | _=>false
def qA (kk:IntKind) (n:Int) (v:AV):List (AV × AV)->List (AV × AV)
 | []=>[(.v (.int kk n),v)]
 | p::r=>if n<jB p then (.v (.int kk n),v)::p::r else p::qA kk n v r
def js (n:Int):List (AV × AV)->Bool
 | []=>false
 | p::r=>jB p==n || js n r
def qM (kk:IntKind) (n:Int) (v:AV):List (AV × AV)->List (AV × AV)
 | []=>[]
 | p::r=>(if jB p=n then (.v (.int kk n),v) else p)::qM kk n v r
def yv (kk:IntKind) (n:Int) (v:AV) (es:List (AV × AV)):Option (List (AV × AV)):=
 if jP kk es then some (if js n es then qM kk n v es else qA kk n v es) else none
def yn (n:Int) (z:AV):List (AV × AV)->AV × Bool
 | []=>(z,false)
 | p::r=>(if jB p=n then p.2 else (yn n z r).1,jB p==n || (yn n z r).2)
def Wd (kk:IntKind) (n:Int) (z:AV) (es:List (AV × AV)):Option (AV × Bool):=if jP kk es then some (yn n z es) else none
def vY (T:Nat->AV) (d:Int):Option Operand->Option Int
 | none=>some d
 | some x=>match ev T x with
   | .v (.int _ n)=>some n
   | _=>none
def zn (P:Program) (T:Nat->AV) (h:List Ob):Op->Option (AV × List Ob)
 | .move x=>some (ev T x,h)
 | .assign x=>some (ev T x,h)
 | .pick c a b=>match ev T c with
   | .v (.bool t)=>some (if t then ev T a else ev T b,h)
   | _=>none
 | .alloc t=>(qg P T (.alloc t)).map λq=>(q.2 h.length,h++[q.1])
 | .box t x=>(qg P T (.box t x)).map λq=>(q.2 h.length,h++[q.1])
 | .buildSlice t n o=>(qg P T (.buildSlice t n o)).map λq=>(q.2 h.length,h++[q.1])
 | .makeSlice t l c=>(qg P T (.makeSlice t l c)).map λq=>(q.2 h.length,h++[q.1])
 | .makeMap t r=>(qg P T (.makeMap t r)).map λq=>(q.2 h.length,h++[q.1])
 | .build t o=>match (zi P t).kind with
   | .struct j=>if j.all (λf=>(zi P f.2).ok) then (zi P t).zero.bind λz=>(kG (Zx P j) (z.map .v) (evs T o.toList)).map λg=>(.ag g,h) else none
   | .arr _ e=>if (zi P e).ok then (zi P t).zero.bind λz=>(kG (vr (zi P e).sz) (z.map .v) (evs T o.toList)).map λg=>(.ag g,h) else none
   | _=>none
 | .load t a=>(ym h (zi P t) (ev T a)).map (·,h)
 | .store t a x=>if (zi P t).ok then (ev T x).cells.bind λns=>if ns.length=(zi P t).sz then (vt h ns (ev T a)).map λh'=>(.v undef,h') else none else none
 | .nilCheck x=>match ev T x with
   | .ptr id off=>some (.ptr id off,h)
   | .ep a e i k=>some (.ep a e i k,h)
   | .fn (.func f) a b=>some (.fn (.func f) a b,h)
   | _=>none
 | .binOp op t x y _=>(if yY y then Wc P h op t (ev T x) else xja P op t (ev T x) (ev T y)).map (·,h)
 | .unOp op _ x=>match op,ev T x with
   | .neg,.v (.int k n)=>some (.v (.int k (k.wrap (0 - n))),h)
   | .not,.v (.bool b)=>some (.v (.bool (!b)),h)
   | _,_=>none
 | .convert s d x=>match (zi P s).ok,(zi P d).kind,ev T x with
   | true,.int k,.v (.int _ n)=>some (.v (.int k (k.wrap n)),h)
   | true,.str,.sl 1 rows=>(xka P s rows).map (·,h)
   | _,_,_=>none
 | .makeFunc f a b=>some (.fn f (evl T a.toList) (evl T b.toList),h)
 | .fieldAddr t x i=>match (zi P t).kind with
   | .struct j=>j[i]?.bind λf=>if (zi P f.2).ok/\0<(zi P f.2).sz then (match ev T x with
     | .ptr id off=>some (.ptr id (off+f.1),h)
     | .ep a e i k=>some (.ep a e i (k+f.1),h)
     | _=>none) else none
   | _=>none
 | .field t x i=>match (zi P t).kind,ev T x with
   | .struct j,.ag g=>j[i]?.bind λf=>if (zi P f.2).ok then (part g f.1 (zi P f.2).agg (zi P f.2).sz).map (·,h) else none
   | _,_=>none
 | .indexAddr t x i=>match (zi P t).kind,ev T i with
   | .slice e,.v (.int _ n)=>if (zi P e).ok/\0<(zi P e).sz/\eOf h (ev T x)=some (zi P e).sz then (YI h n (ev T x)).map (·,h) else none
   | .arr m e,.v (.int _ n)=>if (zi P e).ok/\0<=n/\n<m then (match ev T x with
     | .ptr id off=>some (.ptr id (off+n.toNat*(zi P e).sz),h)
     | .ep a B i k=>some (.ep a B i (k+n.toNat*(zi P e).sz),h)
     | _=>none) else none
   | _,_=>none
 | .index t x i=>match (zi P t).kind,ev T x,ev T i with
   | .arr m e,.ag g,.v (.int _ n)=>if (zi P e).ok/\0<=n/\n<m then (part g (n.toNat*(zi P e).sz) (zi P e).agg (zi P e).sz).map (·,h) else none
   | _,_,_=>none
 | .slice t x lo w none=>match (zi P t).kind with
   | .slice e=>(zo h (ev T x)).bind λxs=>(vY T 0 lo).bind λl=>(vY T xs.length w).bind λm=>
     if (zi P e).ok/\0<=l/\l<=m/\m<=xs.length/\(l=m∨(0<(zi P e).sz/\eOf h (ev T x)=some (zi P e).sz)) then some (.vw (ev T x) (zi P e).sz l.toNat (m.toNat - l.toNat),h) else none
   | _=>none
 | .insert t m k v=>match (zi P t).kind,ev T m,ev T k with
   | .mapk u _,.mp id,.v (.int kk n)=>match (zi P u).kind,h[id]? with
     | .int kk',some (.mapo es)=>if kk'=kk then (yv kk n (ev T v) es).map λes'=>(.v undef,h.set id (.mapo es')) else none
     | _,_=>none
   | _,_,_=>none
 | .lookup t m k ok=>match (zi P t).kind,ev T m,ev T k with
   | .mapk u A,.mp id,.v (.int kk n)=>match (zi P u).kind,h[id]?,z9a (zi P A) with
     | .int kk',some (.mapo es),some z=>if kk'=kk then (Wd kk n z es).map λp=>(if ok then .tup [p.1,.v (.bool p.2)] else p.1,h) else none
     | _,_,_=>none
   | _,_,_=>none
 | .extract x i=>match ev T x with
   | .tup g=>if i<g.length then some (nth g i,h) else none
   | _=>none
 | .call c=>wu P T h c
 | _=>none
section
variable {c:Ctx}
theorem We:∀(vs:List Value),ARs c (V9 vs.length) vs
 | []=>rfl
 | v::r=>⟨v,r,rfl,trivial,We r⟩
theorem Wf (off:Nat):∀(us:List Value) (k:Nat) (cells:Array Value),off+k+us.length<=cells.size->
  ((us.zipIdx k).foldl (λd (p:Value × Nat)=>d.setIfInBounds (off+p.2) p.1) cells).toList=cells.toList.take (off+k)++us++cells.toList.drop (off+k+us.length)
 | [],k,cells,_=>by simp
 | u::us,k,cells,h=>by
   have h:off+k+(us.length+1)<=cells.size:=by simpa using h
   rw[List.zipIdx_cons,List.foldl_cons,Wf off us (k+1) _ (by simp;omega)]
   apply List.ext_getElem?
   intro j
   simp only[Array.toList_setIfInBounds,List.getElem?_append,List.length_take,List.length_set,Array.length_toList,List.length_append,List.length_cons]
   by_cases a:j<off+k
   ·simp[a,show j<off+(k+1) by omega,show min (off+(k+1)) cells.size=off+(k+1) by omega,show min (off+k) cells.size=off+k by omega,show j<off+(k+1)+us.length by omega,show j<off+k+(us.length+1) by omega,show off+k≠j by omega]
   ·by_cases c:j=off+k
    ·subst c
     simp[show min (off+(k+1)) cells.size=off+(k+1) by omega,show min (off+k) cells.size=off+k by omega,show off+k<off+(k+1) by omega,show off+k<off+(k+1)+us.length by omega,show off+k<cells.size by omega]
    ·by_cases b:j<off+k+(us.length+1)
     ·simp[a,b,show ¬ j<off+(k+1) by omega,show min (off+(k+1)) cells.size=off+(k+1) by omega,show min (off+k) cells.size=off+k by omega,show j<off+(k+1)+us.length by omega,show j - (off+k)=(j - (off+(k+1)))+1 by omega]
     ·simp[a,b,show ¬ j<off+(k+1)+us.length by omega,show min (off+(k+1)) cells.size=off+(k+1) by omega,show min (off+k) cells.size=off+k by omega]
      rw[List.getElem?_set_ne (by omega)]
      rw[show off+(k+1)+us.length+(j - (off+(k+1)+us.length))=j by omega,show off+k+(us.length+1)+(j - (off+k+(us.length+1)))=j by omega]
      simp
def yBa (c:Ctx):List (Nat × AV)->List (Nat × Value)->Prop
 | [],b=>b=[]
 | (i,a)::r,b=>∃v q,b=(i,v)::q/\AR c a v/\yBa c r q
theorem Z7 (place:Nat->Option (Nat × Nat)):∀(s:List (Nat × AV)) (d:List (Nat × Value)) (aZ rs:List AV) (cells:Array Value),yBa c s d->ARs c aZ cells.toList->kG place aZ s=some rs->
  ∃b,Instr.fill place cells d=some b/\ARs c rs b.toList
 | [],d,aZ,rs,cells,o,l,h=>by
   have o:d=[]:=o
   subst o
   injection h with h
   subst h
   exact ⟨cells,rfl,l⟩
 | (i,a)::r,d,aZ,rs,cells,⟨v,q,B,w,C⟩,l,h=>by
   subst B
   simp only[kG] at h
   split at h
   ·rename_i off size e j g
    split at h
    ·rename_i p
     cases m:lay aZ off e with
     | none=>rw[m] at h;cases h
     | some k=>
       rw[m] at h
       obtain ⟨t,F⟩:=JX g w
       have n:v.cells.size=size:=by
        have:=xr t
        simp at this
        omega
       obtain ⟨D,z⟩:=Z4 l off t m
       have A:off+v.cells.size<=cells.size:=by simpa using z
       have y:=Wf off v.cells.toList 0 cells (by simpa using A)
       have f:(v.cells.zipIdx.foldl (λe (x:Value × Nat)=>e.setIfInBounds (off+x.2) x.1) cells).toList=cells.toList.take off++v.cells.toList++cells.toList.drop (off+v.cells.toList.length):=by
        rw[<-Array.foldl_toList,Array.toList_zipIdx]
        simpa using y
       obtain ⟨b,E,u⟩:=Z7 place r q k rs (v.cells.zipIdx.foldl (λe (x:Value × Nat)=>e.setIfInBounds (off+x.2) x.1) cells) C (by rw[f];exact D) h
       refine ⟨b,?_,u⟩
       simp only[Instr.fill,j,n]
       rw[if_neg (by simp;omega)]
       exact E
    ·cases h
   ·cases h
theorem Zo (e:Nat):∀(n:Nat) (l:List AV),l.length=n*e->(yl e n l).flatten=l/\(∀x∈yl e n l,x.length=e)/\(yl e n l).length=n
 | 0,l,h=>by
   have:l=[]:=List.eq_nil_of_length_eq_zero (by simpa using h)
   subst this
   simp[yl]
 | n+1,l,h=>by
   rw[Nat.succ_mul] at h
   obtain ⟨d,b,c⟩:=Zo e n (l.drop e) (by simp;omega)
   refine ⟨by simp[yl,d],λx a=>?_,by simp[yl,c]⟩
   simp only[yl,List.mem_cons] at a
   rcases a with rfl | a
   ·simp;omega
   ·exact b x a
end
section
variable {B:Nat} {w:World} {g:Gh} {h h':List Ob} {P:Program} {T:Nat->AV} {a:Act} {x:AV}
def Did (P:Program) (s:Sem Next) (B:Nat) (w:World) (g:Gh) (h:List Ob) (x:AV) (h':List Ob):Prop:=
 ∃a v w' g',s.run P w= .ok a w'/\(a= .value v∨(a= .skip/\v=undef))/\Good B w g h w' g' h'/\AR (ctx w' g' h') x v
def DidV (P:Program) (s:Sem Value) (B:Nat) (w:World) (g:Gh) (h:List Ob) (x:AV) (h':List Ob):Prop:=
 ∃v w' g',s.run P w= .ok v w'/\Good B w g h w' g' h'/\AR (ctx w' g' h') x v
theorem DidV.did {s:Sem Value} (d:DidV P s B w g h x h'):Did P (do pure (.value (<-s))) B w g h x h':=by
 obtain ⟨v,w',g',c,a,b⟩:=d
 exact ⟨.value v,v,w',g',by simp[c],.inl rfl,a,b⟩
theorem qm {s:Sem Value} {v:Value} (b:HOk B w g h) (hB:B<=w.heap.size) (c:s.run P w= .ok v w) (a:AR (ctx w g h) x v):DidV P s B w g h x h:=
 ⟨v,w,g,c,Good.refl b hB,a⟩
def kN (c:Ctx) (T:Nat->AV) (a:Act):Prop:=∀i,AR c (T i) (a.tmps.getD i undef)
theorem qu {c:Ctx} (b:kN c T a):∀(x:Operand),AR c (ev T x) (a.eval x)
 | .tmp i=>b i
 | .const x=>ywa x
 | .func f=>⟨#[], #[],rfl,rfl,rfl⟩
 | .global _=>trivial
theorem vu {c:Ctx} (b:kN c T a) {x:Operand} {u:Value} (e:ev T x= .v u):a.eval x=u:=by
 have:=qu b x;rw[e] at this;exact this
theorem Zz {c:Ctx} (b:kN c T a):∀(l:List Operand),ARs c (evl T l) (l.map a.eval)
 | []=>rfl
 | x::r=>⟨_,_,rfl,qu b x,Zz b r⟩
theorem JM {c:Ctx} (b:kN c T a):∀(l:List (Nat × Operand)),yBa c (evs T l) (l.map λ(i,x)=>(i,a.eval x))
 | []=>rfl
 | (i,x)::r=>⟨_,_,rfl,qu b x,JM b r⟩
theorem Vw {t:TypeId} {z:List Value} (h:(zi P t).zero=some z):(zi P t).ok=true:=by
 unfold zi at h⊢
 split at h
 ·rfl
 ·cases h
theorem qb {t:TypeId} {k:K} (h:(zi P t).kind=k) (a:k≠ .other):(zi P t).ok=true:=by
 unfold zi at h⊢
 split at h
 ·rfl
 ·exact absurd h.symm a
theorem J0 {t:TypeId} {i:TypeInfo} {z:Value} (a:P.info? t=some i) (b:i.zero=some z):(zeroValue t).run P w= .ok z w:=by simp[zeroValue,typeInfo,a,b]
inductive Made (B:Nat) (w:World) (g:Gh) (h:List Ob) (w':World) (v:Value):Ob->(Nat->AV)->Prop where
 | box (ty:TypeId) (cs:List AV) (vs:Array Value) (hw:w'=w.alloc (.cells vs ty)) (hv:v= .pointer (some ⟨w.heap.size,0,none⟩)) (hn:ARs (ctx w g h) cs vs.toList):Made B w g h w' v (.box ty cs) λi=> .ptr i 0
 | row (ty e:Nat) (xs:List (List AV)) (cells:List Value) (he:0<e) (hx:∀x∈xs,x.length=e) (hb:Below w.heap.size w w') (hown:w'.ownsRow B ty e v xs.length cells) (hn:ARs (ctx w g h) xs.flatten cells)
   (hbl:∀b,v.ownBlock=some b->w.heap.size<=b):Made B w g h w' v (.row ty e xs 0) λi=> .tl i 0
 | map (hw:w'=w.alloc (.map #[] 0)) (hv:v= .map (some w.heap.size)):Made B w g h w' v (.mapo []) λi=> .mp i
theorem Made.more {w':World} {v:Value} {o:Ob} {mk:Nat->AV} (m:Made B w g h w' v o mk) (i:HOk B w g h) (hB:B<=w.heap.size):∃g',Good B w g h w' g' (h++[o])/\AR (ctx w' g' (h++[o])) (mk h.length) v:=by
 cases m with
 | box ty n vs d c f=>subst d c;exact ⟨_,xha i hB f⟩
 | row ty e xs cells k l j a f b=>exact ⟨_,yz i hB k l 0 j a f b⟩
 | map d c=>subst d c;exact ⟨_,xia i hB⟩
theorem Made.at {w':World} {v:Value} {o:Ob} {mk:Nat->AV} (m:Made B w g h w' v o mk) (k:HOk B w g h) (hB:B<=w.heap.size) {i:Nat} (c:h[i]? =some .res):∃g',Good B w g h w' g' (h.set i o)/\AR (ctx w' g' (h.set i o)) (mk i) v:=by
 cases m with
 | box ty q vs f d j=>subst f d;exact ⟨_,yxa k hB c j⟩
 | row ty e xs cells n p l a j b=>exact ⟨_,yya k hB c n p 0 l a j b⟩
 | map f d=>subst f d;exact ⟨_,yza k hB c⟩
theorem Made.live {w':World} {v:Value} {o:Ob} {mk:Nat->AV} (m:Made B w g h w' v o mk):o.isRes=false:=by cases m<;>rfl
theorem qRa (l:HOk B w g h) {t:TypeId} {z:List Value} (f:(zi P t).ok=true) (a:(zi P t).zero=some z):
  ∃v w',(Instr.alloc t true (.tuple #[])).run P w= .ok v w'/\Made B w g h w' v (.box t (z.map .v)) (λi=> .ptr i 0):=by
 obtain ⟨d,i,k,j,e⟩:=qa f
 rw[e] at a
 cases b:i.zero with
 | none=>rw[b] at a;cases a
 | some c=>
   rw[b] at a
   injection a with a
   subst a
   exact ⟨_,_,by simp[Instr.alloc,J0 j b,newVar,newRow],.box t _ c.cells rfl rfl (Z3 _)⟩
theorem vCa (d:HOk B w g h) {t:TypeId} {y:AV} {v:Value} {a:List AV} (c:AR (ctx w g h) y v) (b:y.cells=some a):
  ∃u w',(Instr.box t v).run P w= .ok u w'/\Made B w g h w' u (.box t a) (λi=> .ptr i 0):=
 ⟨_,_,by simp[Instr.box,newVar,newRow],.box t _ v.cells rfl rfl (JX b c).1⟩
theorem KB:∀(a:List Field),(a.all λf=>(zi P f.type).ok)=true->a.mapM (λf=>(P.info? f.type).map λi=>(f.offset,i.size))=some (a.map λf=>(f.offset,(zi P f.type).sz))
 | [],_=>rfl
 | f::a,h=>by
   rw[List.all_cons,Bool.and_eq_true] at h
   obtain ⟨d,i,c,b,e⟩:=qa h.1
   simp[List.mapM_cons,b,KB a h.2,e]
theorem qSa (H:HOk B w g h) (hB:B<=w.heap.size) (A:kN (ctx w g h) T a) {t:TypeId} {p:Array (Nat × Operand)} {n:List (Nat × TypeId)} {z:List Value} {q:List AV}
  (m:(zi P t).kind= .struct n) (s:n.all (λf=>(zi P f.2).ok)=true) (k:(zi P t).zero=some z) (D:kG (Zx P n) (z.map .v) (evs T p.toList)=some q):
  DidV P (Instr.build t (p.map λ(i,x)=>(i,a.eval x))) B w g h (.ag q) h:=by
 have G:=Vw k
 obtain ⟨d,i,E,C,e⟩:=qa G
 rw[e] at k m
 cases d<;>try (cases m;done)
 rename_i fields
 injection m with m
 cases l:i.zero with
 | none=>rw[l] at k;cases k
 | some y=>
   rw[l] at k
   injection k with k
   subst k
   have o:(fields.toList.all λf=>(zi P f.type).ok)=true:=by rw[<-m,List.all_map] at s;exact s
   have r:=KB (P:=P) fields.toList o
   obtain ⟨b,F,u⟩:=Z7 (c:=ctx w g h) (Zx P n) (evs T p.toList) (p.toList.map λ(i,x)=>(i,a.eval x)) _ q y.cells (JM A _) (Z3 _) D
   refine qm H hB (v:= .agg b) (run_build w t _ b ?_) ⟨b,rfl,u⟩
   unfold Program.built
   simp only[C,E,l,r]
   have:(λx=>(fields.toList.map λf=>(f.offset,(zi P f.type).sz)).toArray[x]?)=Zx P n:=by
    funext j
    rw[<-m]
    simp[Zx,Option.map_map,Function.comp_def]
   rw[this]
   simpa using F
theorem Kk (L:HOk B w g h) (hB:B<=w.heap.size) (A:kN (ctx w g h) T a) {t e:TypeId} {m:Nat} {l:Array (Nat × Operand)} {z:List Value} {o:List AV}
  (p:(zi P t).kind= .arr m e) (G:(zi P e).ok=true) (f:(zi P t).zero=some z) (E:kG (vr (zi P e).sz) (z.map .v) (evs T l.toList)=some o):
  DidV P (Instr.build t (l.map λ(i,x)=>(i,a.eval x))) B w g h (.ag o) h:=by
 have K:=Vw f
 obtain ⟨d,i,I,D,H⟩:=qa K
 rw[H] at f p
 cases d<;>try (cases p;done)
 rename_i n k
 injection p with hk1 hk2
 subst hk2
 obtain ⟨M,C,F,s,r⟩:=qa G
 cases j:i.zero with
 | none=>rw[j] at f;cases f
 | some y=>
   rw[j] at f
   injection f with f
   subst f
   obtain ⟨b,J,u⟩:=Z7 (c:=ctx w g h) (vr (zi P k).sz) (evs T l.toList) (l.toList.map λ(i,x)=>(i,a.eval x)) _ o y.cells (JM A _) (Z3 _) E
   refine qm L hB (v:= .agg b) (run_build w t _ b ?_) ⟨b,rfl,u⟩
   unfold Program.built
   simp only[D,I,j,s]
   have q:C.size=(zi P k).sz:=by rw[r]
   rw[q]
   have:(λi=>some (i*(zi P k).sz,(zi P k).sz))=vr (zi P k).sz:=rfl
   rw[this]
   simpa using J
theorem YJ (hh:HOk B w g h) (hB:B<=w.heap.size) (W:kN (ctx w g h) T a) {t e:TypeId} {n:Nat} {r:Array (Nat × Operand)} {u:List AV}
  (A:(zi P t).kind= .slice e) (ho:(zi P e).ok=true) (h0:0<(zi P e).sz) (hn:n*(zi P e).sz<=16777216) (E:(zi P e).zero.isSome=true)
  (M:kG (vr (zi P e).sz) (V9 (n*(zi P e).sz)) (evs T r.toList)=some u):
  ∃v w',(Instr.buildSlice t n (r.map λ(i,x)=>(i,a.eval x))).run P w= .ok v w'/\Made B w g h w' v (.row e (zi P e).sz (yl (zi P e).sz n u) 0) (λi=> .tl i 0):=by
 have ht:=qb A (by simp)
 obtain ⟨d,i,U,hi,eq⟩:=qa ht
 rw[eq] at A
 cases d<;>try (cases A;done)
 injection A with A
 subst A
 rename_i e
 obtain ⟨d',o,α,H,J⟩:=qa ho
 have F:(zi P e).sz=o.size:=by rw[J]
 rw[F] at h0 hn M⊢
 cases G:o.zero with
 | none=>rw[J] at E;simp[G] at E
 | some z=>
   obtain ⟨k,V,R⟩:=Z7 (c:=ctx w g h) (vr o.size) (evs T r.toList) (r.toList.map λ(i,x)=>(i,a.eval x)) _ u ((Array.range (n*o.size)).map (z.cells[· % z.cells.size]!)) (JM W _)
    (by have:=We (c:=ctx w g h) ((Array.range (n*o.size)).map (z.cells[· % z.cells.size]!)).toList;simpa using this) M
   have N:u.length=n*o.size:=by
    have key:∀(l:List (Nat × AV)) (aZ rs:List AV),kG (vr o.size) aZ l=some rs->rs.length=aZ.length:=by
     intro l
     induction l with
     | nil=>intro aZ rs h;injection h with h;rw[h]
     | cons p l Q=>
       intro aZ rs h
       obtain ⟨j,y⟩:=p
       simp only[kG] at h
       split at h
       ·split at h
        ·rename_i off size us hp hy hl
         cases q:lay aZ off us with
         | none=>rw[q] at h;cases h
         | some Z=>rw[q] at h;rw[Q _ _ h,JJ q]
        ·cases h
       ·cases h
    have O:∀m,(V9 m).length=m:=λm=>by induction m with | zero=>rfl | succ m Q=>simp[V9,Q]
    rw[key _ _ _ M,O]
   obtain ⟨c1,Y,X⟩:=Zo o.size n u N
   have s:k.size=n*o.size:=by have:=xr R;simp at this;omega
   have C:(Instr.buildSlice t n (r.map λ(i,x)=>(i,a.eval x))).run P w= .ok (.slice (some ⟨w.heap.size,0,none⟩) n n) (w.alloc (.cells k e)):=by
    by_cases D:n*o.size=0
    ·have L:n=0:=by
      rcases Nat.mul_eq_zero.1 D with h | h
      ·exact h
      ·omega
     subst L
     have e0:((Array.range 0).map (z.cells[· % z.cells.size]!))= #[]:=by simp
     have S:Instr.fill (λi=>some (i*o.size,o.size)) #[] (r.map λ(i,x)=>(i,a.eval x)).toList=some k:=by
      have:=V
      rw[Nat.zero_mul,e0] at this
      rw[Array.toList_map]
      exact this
     generalize (r.map λ(i,x)=>(i,a.eval x))=qs at S
     have e1:∀f:Nat->Value,(Array.range 0).map f= #[]:=λf=>by simp[Array.range]
     simp[Instr.buildSlice,run_underlying U,sizeOf,typeInfo,H,e1,S,newRow]
    ·exact run_buildSlice w t e n _ k o z U H G (by omega) D (by rw[Array.toList_map];exact V)
   have hm:n<=maxLen:=by
    have:n<=n*o.size:=Nat.le_mul_of_pos_right n h0
    simp only[maxLen]
    omega
   have K:k.toList.take (n*o.size)=k.toList:=List.take_of_length_le (by simp[s])
   have I:(w.alloc (.cells k e)).ownsRow B e o.size (.slice (some ⟨w.heap.size,0,none⟩) n n) (yl o.size n u).length k.toList:=by
    rw[X]
    exact ⟨by simpa using s,.inr ⟨w.heap.size,n,k,rfl,hB,heap_alloc_new w _,Nat.le_refl _,hm,s,K⟩⟩
   exact ⟨_,_,C,.row e o.size _ _ h0 Y ((Below.refl _ w).alloc (Nat.le_refl _) _) I (by rw[c1];exact R) (λb O=>by simp[Value.ownBlock] at O;omega)⟩
theorem Zp (z:Array Value) (n:Nat):(madeCells z (n*z.size)).toList=(List.replicate n z.toList).flatten:=by
 by_cases u:z.size=0
 ·have c:z= #[]:=Array.eq_empty_of_size_eq_zero u
  subst c
  have:(List.replicate n ([]:List Value)).flatten=[]:=by rw[List.flatten_eq_nil_iff];intro l d;exact List.eq_of_mem_replicate d
  simp[madeCells,this,Array.range_zero']
 ·have v:∀x∈List.replicate n z.toList,x.length=z.size:=λx b=>by rw[List.eq_of_mem_replicate b];simp
  have d:(List.replicate n z.toList).flatten.length=n*z.size:=by
   have:∀m,(List.replicate m z.toList).flatten.length=m*z.size:=λm=>by
    induction m with
    | zero=>simp
    | succ m p=>rw[List.replicate_succ,List.flatten_cons,List.length_append,p,Nat.succ_mul];simp;omega
   exact this n
  apply List.ext_getElem?
  intro j
  by_cases g:j<n*z.size
  ·have f:j % z.size<z.size:=Nat.mod_lt _ (by omega)
   have t:j / z.size<n:=by rw[Nat.div_lt_iff_lt_mul (by omega)];exact g
   have s:(List.replicate n z.toList)[j / z.size]? =some z.toList:=by rw[List.getElem?_replicate,if_pos t]
   have h:z.toList[j % z.size]? =some z[j % z.size]:=by simp[f]
   have key:∀ {xs:List (List Value)},(∀x∈xs,x.length=z.size)->∀ {i k:Nat} {r:List Value} {a:Value},xs[i]? =some r->r[k]? =some a->xs.flatten[i*z.size+k]? =some a:=λb _ _ _ _ o q=>vX b o q
   have e:=key v s h
   rw[show j / z.size*z.size+j % z.size=j by rw[Nat.mul_comm];exact Nat.div_add_mod j z.size] at e
   rw[e]
   simp[madeCells,g,f]
  ·rw[List.getElem?_eq_none (by simp[madeCells];omega),List.getElem?_eq_none (by rw[d];omega)]
theorem YK (U:HOk B w g h) (hB:B<=w.heap.size) {t e:TypeId} {k1 k2:IntKind} {n:Int} {z:List Value}
  (j:(zi P t).kind= .slice e) (R:0<=n) (s:n*((zi P e).bytes+1)<=140737488355328) (Q:(zi P e).ok=true) (h0:0<(zi P e).sz) (r:(zi P e).zero=some z) (C:z.length=(zi P e).sz):
  ∃v w',(Instr.makeSlice t (.int k1 n) (.int k2 n)).run P w= .ok v w'/\Made B w g h w' v (.row e (zi P e).sz (List.replicate n.toNat (z.map .v)) 0) (λi=> .tl i 0):=by
 obtain ⟨d,it,I,O,eq⟩:=qa (qb j (by simp))
 rw[eq] at j
 cases d<;>try (cases j;done)
 injection j with j
 subst j
 rename_i e
 obtain ⟨S,i,M,G,c⟩:=qa Q
 have y:(zi P e).sz=i.size:=by rw[c]
 have D:(zi P e).bytes=i.bytes:=by rw[c]
 rw[y] at h0 C⊢
 rw[D] at s
 cases a:i.zero with
 | none=>rw[c] at r;simp[a] at r
 | some o=>
   have p:o.cells.toList=z:=by rw[c] at r;simpa [a] using r
   obtain ⟨m,rfl⟩:=Int.eq_ofNat_of_zero_le R
   have A:m*(i.bytes+1)<=140737488355328:=by
    have:((m*(i.bytes+1):Nat):Int)<=140737488355328:=by simpa using s
    omega
   rw[Nat.mul_add,Nat.mul_one,Nat.mul_comm] at A
   have l:o.cells.size=i.size:=by rw[<-C, <-p];simp
   obtain ⟨w',H,K,q⟩:=run_make_full (P:=P) w B t e i o i.size I G a rfl k1 k2 m (by omega) (by simp only[maxLen];omega) hB
   obtain ⟨J,F,L,_⟩:=run_make_full (P:=P) w w.heap.size t e i o i.size I G a rfl k1 k2 m (by omega) (by simp only[maxLen];omega) (Nat.le_refl _)
   have E:J=w':=by rw[H] at F;injection F with _ h;exact h.symm
   subst E
   refine ⟨_,J,H,?_⟩
   have f:(madeCells o.cells (m*i.size)).toList=(List.replicate m z).flatten:=by rw[<-l,Zp,p]
   have u:(List.replicate m (z.map AV.v)).flatten=(List.replicate m z).flatten.map AV.v:=by
    induction m with
    | zero=>simp
    | succ m T=>simp[List.replicate_succ]
   simp only[Int.toNat_natCast,Int.ofNat_eq_natCast]
   refine .row e i.size _ (madeCells o.cells (m*i.size)).toList h0 (λx N=>by rw[List.eq_of_mem_replicate N];simp[C]) ⟨q.os,q.tape,q.output,q.size,λk j=>q.block k j (by simp)⟩ (by simpa using K) ?_ (λb s=>(World.ownsRow.lt L b s).1)
   rw[u,f]
   exact Z3 _
theorem J1 (q:HOk B w g h) (hB:B<=w.heap.size) (p:kN (ctx w g h) T a) {op:Op} {o:Ob} {mk:Nat->AV} (b:qg P T op=some (o,mk)) (dst:Option Tmp) (type:TypeId) (pos:String) (after:Array Edge) (guard:Option (Nat × Bool)):
  ∃v w',(execOp a.eval ⟨dst,op,type,pos,after,guard⟩).run P w= .ok (.value v) w'/\Made B w g h w' v o mk:=by
 unfold qg at b
 split at b
 ·rename_i t
  split at b
  ·rename_i H
   cases i:(zi P t).zero with
   | none=>rw[i] at b;cases b
   | some z=>
     rw[i] at b
     injection b with b;injection b with hx1 hx2;subst hx1 hx2
     obtain ⟨v,w',j,f⟩:=qRa (P:=P) q H i
     exact ⟨v,w',by simp[execOp,j],f⟩
  ·cases b
 ·rename_i t y
  cases d:(ev T y).cells with
  | none=>rw[d] at b;cases b
  | some u=>
    rw[d] at b
    injection b with b;injection b with hx1 hx2;subst hx1 hx2
    obtain ⟨v,w',j,f⟩:=vCa (P:=P) (t:=t) q (qu p y) d
    exact ⟨v,w',by simp[execOp,j],f⟩
 ·rename_i t n G
  split at b
  ·rename_i e r
   split at b
   ·rename_i k
    cases d:kG (vr (zi P e).sz) (V9 (n*(zi P e).sz)) (evs T G.toList) with
    | none=>rw[d] at b;cases b
    | some u=>
      rw[d] at b
      injection b with b;injection b with hx1 hx2;subst hx1 hx2
      obtain ⟨v,w',j,f⟩:=YJ q hB p r k.1 k.2.1 k.2.2.1 k.2.2.2 d
      exact ⟨v,w',by simp[execOp,j],f⟩
   ·cases b
  ·cases b
 ·rename_i t l c
  split at b
  ·rename_i e k1 n k2 m r F d
   split at b
   ·rename_i k
    obtain ⟨C,s,A,E,f5,f6⟩:=k
    subst C
    cases i:(zi P e).zero with
    | none=>rw[i] at b;cases b
    | some z=>
      rw[i] at b f6
      injection b with b;injection b with hx1 hx2;subst hx1 hx2
      have j:=vu p F
      have f:=vu p d
      obtain ⟨v,w',D,x⟩:=YK (P:=P) (k1:=k1) (k2:=k2) q hB r s A E f5 i (by simpa using f6)
      exact ⟨v,w',by simp[execOp,j,f,D],x⟩
   ·cases b
  ·cases b
 ·rename_i t
  split at b
  ·injection b with b;injection b with hx1 hx2;subst hx1 hx2
   exact ⟨.map (some w.heap.size),w.alloc (.map #[] 0),by simp[execOp,Instr.makeMap,newObj];rfl,.map rfl rfl⟩
  ·cases b
 ·cases b
end
section
variable {B:Nat} {w:World} {g:Gh} {h h':List Ob} {P:Program} {x:AV}
theorem qaa (q:HOk B w g h) {a:AV} {e i k:Nat} {u:Value} (l:AR (ctx w g h) (.ep a e i k) u) {xs:List (List AV)} (f:eOf h a=some e) (j:zo h a=some xs):
  ∃A b,AR (ctx w g h) a (.slice (some A) xs.length b)/\RowsAt w (ctx w g h) e xs (some A)/\i<xs.length/\u= .pointer (some (A.add (i*e+k))):=by
 obtain ⟨A,m,b,c,d,p⟩:=l
 obtain ⟨s,k',o,r,n,_⟩:=xu q _ c j
 injection o with e4 e5 e6
 subst e5 e6
 have:=n e f
 rw[<-e4] at this
 exact ⟨A,b,c,this,d,p⟩
theorem Wg (f:HOk B w g h) (hB:B<=w.heap.size) {t:TypeId} {p:AV} {u:Value} (s:AR (ctx w g h) p u) (c:ym h (zi P t) p=some x):DidV P (Instr.loadAt t u) B w g h x h:=by
 cases p with
 | ptr id off=>
   simp only[ym] at c
   split at c
   ·rename_i ty I G
    split at c
    ·rename_i H
     obtain ⟨v,y,j⟩:=QE (P:=P) H (JY f G) c
     obtain ⟨_,e⟩:=s
     subst e
     refine qm f hB (v:=v) ?_ j
     rw[Addr.add_lit,Nat.zero_add] at y
     simpa [Instr.loadAt,Instr.sureAddr,ctx] using y
    ·cases c
   ·cases c
 | ep a e i k=>
   simp only[ym] at c
   split at c
   ·rename_i o
    cases m:zo h a with
    | none=>rw[m] at c;cases c
    | some xs=>
      rw[m] at c
      simp only[Option.bind_some] at c
      cases l:xs[i]? with
      | none=>rw[l] at c;cases c
      | some r=>
        rw[l] at c
        obtain ⟨A,J,_,j,K,E⟩:=qaa f s o.2 m
        subst E
        have d:PartAt w (ctx w g h) (A.add (i*e)) r:=λk b C=>by
         obtain ⟨L,u,n,z,F⟩:=j.cell i k r b l C
         injection n with n
         subst n
         exact ⟨u,by rw[Addr.add_add];exact z,F⟩
        obtain ⟨v,q,D⟩:=QE (P:=P) o.1 d c
        refine qm f hB (v:=v) ?_ D
        rw[Addr.add_add] at q
        simpa [Instr.loadAt,Instr.sureAddr] using q
   ·cases c
 | _=>cases c
theorem ZA {rest:List AV}:∀ {r:List AV} {k:Nat} {ns c:List AV},lay r k ns=some c->lay (r++rest) k ns=some (c++rest)
 | r,0,[],c,h=>by
   have e:∀l:List AV,lay l 0 []=some l:=λl=>by cases l<;>rfl
   rw[e] at h;cases h;exact e _
 | [],k+1,_,_,h=>by cases h
 | [],0,_::_,_,h=>by cases h
 | a::r,0,n::ns,c,h=>by
   simp only[lay] at h
   cases b:lay r 0 ns with
   | none=>rw[b] at h;cases h
   | some q=>
     rw[b] at h;injection h with h;subst h
     simp[lay,ZA b]
 | a::r,k+1,ns,c,h=>by
   simp only[lay] at h
   cases b:lay r k ns with
   | none=>rw[b] at h;cases h
   | some q=>
     rw[b] at h;injection h with h;subst h
     simp[lay,ZA b]
theorem Wh {rest b:List AV} {m:Nat} {ns:List AV} (h:lay rest m ns=some b):∀(x:List AV),lay (x++rest) (x.length+m) ns=some (x++b)
 | []=>by simpa using h
 | a::x=>by
   rw[List.length_cons,show x.length+1+m=(x.length+m)+1 by omega]
   simp[lay,Wh h x]
theorem Jb {e:Nat}:∀ {xs:List (List AV)},(∀x∈xs,x.length=e)->∀ {i k:Nat} {r ns b:List AV},xs[i]? =some r->lay r k ns=some b->lay xs.flatten (i*e+k) ns=some (xs.set i b).flatten
 | x::xs,h,0,k,r,ns,b,a,c=>by
   injection a with a
   subst a
   simpa using ZA (rest:=xs.flatten) c
 | x::xs,h,i+1,k,r,ns,b,a,c=>by
   have d:=h x (by simp)
   have:=Wh (Jb (xs:=xs) (λy f=>h y (by simp[f])) (i:=i) a c) x
   rw[d] at this
   rw[show (i+1)*e+k=e+(i*e+k) by rw[Nat.succ_mul];omega]
   simpa using this
theorem qba (u:HOk B w g h) (hB:B<=w.heap.size) {id ty e st:Nat} {xs xs':List (List AV)} (D:h[id]? =some (.row ty e xs st)) {A:Addr} {K L:Nat} (d:g.cur id= .slice (some A) K L) {o:Nat} {vs:List Value} {ns:List AV}
  (l:ARs (ctx w g h) ns vs) (U:∀v∈vs,v.oneCell'=true) (f:lay xs.flatten o ns=some xs'.flatten) (q:∀x∈xs',x.length=e) (a:xs'.length=xs.length):
  ∃w' g',(storeCells (A.add o) vs).run P w= .ok () w'/\Good B w g h w' g' (h.set id (.row ty e xs' st)):=by
 obtain ⟨V,W,cells,z,Q⟩:=u.ok id _ D
 obtain ⟨M,r⟩:=Z4 Q _ l f
 rcases z.2 with ⟨p,_⟩ | ⟨i,cap,cur,p,F,C,y,O,T,E⟩
 ·have c:g.cur id=_:=p
  rw[c] at d;cases d
 ·have c:g.cur id=_:=p
  have k:A=⟨i,0,none⟩:=by
   rw[c] at d
   injection d with d
   injection d with d
   exact d.symm
  subst k
  have R:cells.length=xs.length*e:=z.1
  have I:xs.length*e<=cur.size:=by rw[T];exact Nat.mul_le_mul_right _ y
  have H:o+vs.length<=xs.length*e:=by rw[R] at r;exact r
  have j:=run_storeCells_at P i o ty vs 0 cur w C (by simp only[Nat.add_zero];omega) U
  simp only[Nat.add_zero] at j
  rw[Addr.add_lit,Nat.zero_add]
  refine ⟨_,_,j,Z5 (v':=g.cur id) (st':=st) (cells:=cells.take o++vs++cells.drop (o+vs.length)) u hB D q ?_ ?_ M (.inl ⟨rfl,rfl⟩) (λb S=> .inl S)⟩
  ·rw[c]
   exact yy w i _
  ·rw[c]
   refine ⟨?_,.inr ⟨i,cap,_,by rw[a],F,setRow_heap w i cur _ ty _ C,by rw[a];exact y,O,?_,?_⟩⟩
   ·simp only[List.length_append,List.length_take,List.length_drop]
    rw[a]
    omega
   ·simp only[List.size_toArray,List.length_append,List.length_take,List.length_drop,Array.length_toList]
    omega
   ·rw[a, <-E]
    apply List.ext_getElem?
    intro m
    simp only[List.getElem?_take,List.getElem?_append,List.length_take,List.length_append,List.getElem?_drop,Array.length_toList]
    have G:min (xs.length*e) cur.size=xs.length*e:=by omega
    simp only[G]
    have J:min o (xs.length*e)=o:=by omega
    have n:min o cur.size=o:=by omega
    simp only[J,n]
    by_cases t:m<o
    ·simp[t,show m<o+vs.length by omega,show m<xs.length*e by omega]
    ·by_cases s:m<o+vs.length
     ·simp[t,s,show m<xs.length*e by omega]
     ·have N:o+vs.length+(m - (o+vs.length))=m:=by omega
      simp[s,N]
theorem qTa (E:HOk B w g h) (hB:B<=w.heap.size) {t:TypeId} {p y:AV} {u v:Value} {ns:List AV} (R:AR (ctx w g h) p u) (hy:AR (ctx w g h) y v) (W:(zi P t).ok=true) (hn:y.cells=some ns) (Q:ns.length=(zi P t).sz)
  (b:vt h ns p=some h'):∃w' g',(Instr.storeAt t u v).run P w= .ok () w'/\Good B w g h w' g' h':=by
 obtain ⟨d,i,hu,N,eq⟩:=qa W
 obtain ⟨m,z⟩:=JX hn hy
 have f:v.cells.size=i.size:=by
  have:=xr m
  rw[eq] at Q
  simp at this Q
  omega
 have n:∀(C off:Nat) (ty:TypeId) (cur:Array Value),w.heap[C]? =some (.cells cur ty (0,0))->off+v.cells.toList.length<=cur.size->
   (Instr.storeAt t (.pointer (some ⟨C,off,none⟩)) v).run P w= .ok () (w.setRow C (cur.toList.take off++v.cells.toList++cur.toList.drop (off+v.cells.toList.length)).toArray):=λC off ty cur X hb=>by
  have:=run_storeCells_at P C off ty v.cells.toList 0 cur w X (by simpa using hb) z
  simp only[Nat.add_zero] at this
  simp[Instr.storeAt,Instr.sureAddr,storeVar,sizeOf,typeInfo,N,f]
  simpa [f] using this
 cases p with
 | ptr id off=>
   simp only[vt] at b
   split at b
   ·rename_i ty cs l
    cases c:lay cs off ns with
    | none=>rw[c] at b;cases b
    | some ε=>
      rw[c] at b
      injection b with b
      subst b
      obtain ⟨S,vs,M,O⟩:=E.ok id _ l
      obtain ⟨J,Y⟩:=Z4 O off m c
      obtain ⟨_,e⟩:=R
      subst e
      exact ⟨_,_,n _ off ty vs M (by simpa using Y),xga E hB l (by simpa using J)⟩
   ·cases b
 | ep a e j k=>
   cases a<;>try (cases b;done)
   rename_i id st
   simp only[vt] at b
   split at b
   ·rename_i ty H xs s l
    split at b
    ·rename_i V
     obtain ⟨L,I⟩:=V
     subst L I
     cases F:xs[j]? with
     | none=>rw[F] at b;cases b
     | some r=>
       rw[F] at b
       simp only[Option.bind_some] at b
       cases c:lay r k ns with
       | none=>rw[c] at b;cases b
       | some T=>
         rw[c] at b
         injection b with b
         subst b
         have he:eOf h (.tl id s)=some H:=by simp[eOf,l]
         have hr:zo h (.tl id s)=some xs:=by simp[zo,l]
         obtain ⟨A,cp,S,M,O,J⟩:=qaa E R he hr
         subst J
         have q:=Zw S l
         obtain ⟨q0,K,cells,q2,q3⟩:=E.ok id _ l
         have G:=Jb K F c
         have D:∀x∈xs.set j T,x.length=H:=λx b=>by
          rcases List.mem_or_eq_of_mem_set b with b | b
          ·exact K x b
          ·subst b;rw[JJ c];exact K r (List.mem_of_getElem? F)
         obtain ⟨w',g',Z,U⟩:=qba (P:=P) E hB l q.symm (o:=j*H+k) m z G D (by simp)
         refine ⟨w',g',?_,U⟩
         simp[Instr.storeAt,Instr.sureAddr,storeVar,sizeOf,typeInfo,N,f]
         simpa [f] using Z
    ·cases b
   ·cases b
 | _=>cases b
end
section
variable {B:Nat} {w:World} {g:Gh} {h h':List Ob} {P:Program} {x:AV} {T:Nat->AV} {a:Act}
theorem yo {t ty e:TypeId} {i:TypeInfo} (c:P.underlying t=some (.slice e)) (a:P.info? e=some i) (base:Option Addr) (n cap k:Nat) (b:n<=cap):
  (Builtin.append_ #[t,t] ty #[.slice base n cap,.slice none 0 k]).run P w= .ok (.slice base n cap) w:=by
 cases base<;>simp[Builtin.append_,run_underlying c,sizeOf,typeInfo,a,Builtin.lenOf,b,Builtin.firstCells,storeCells]
theorem KC {c:Ctx} {e:Nat} {xs:List (List AV)} {A:Addr} (f:RowsAt w c e xs (some A)) (C:∀r∈xs,r.all AV.one=true):
  ∃news:List Value,news.length=xs.length*e/\(∀j u,news[j]? =some u->w.cell? (A.add j)=some u)/\(∀u∈news,u.oneCell'=true)/\ARs c xs.flatten news:=by
 have y:PartAt w c A xs.flatten:=λk a i=>by
  by_cases z:e=0
  ·have:xs.flatten=[]:=by
    apply List.eq_nil_of_length_eq_zero
    rw[jZ f.len,z,Nat.mul_zero]
   rw[this] at i;cases i
  ·have h:=(List.getElem?_eq_some_iff.1 i).1
   rw[jZ f.len] at h
   have s:k / e<xs.length:=by rw[Nat.div_lt_iff_lt_mul (by omega)];exact h
   have E:k % e<e:=Nat.mod_lt _ (by omega)
   have d:xs[k / e]? =some xs[k / e]:=List.getElem?_eq_getElem s
   have t:xs[k / e].length=e:=f.len _ (List.getElem_mem s)
   have b:xs[k / e][k % e]? =some xs[k / e][k % e]:=List.getElem?_eq_getElem (by omega)
   have l:=vX f.len d b
   have g:k / e*e+k % e=k:=by rw[Nat.mul_comm];exact Nat.div_add_mod k e
   rw[g,i] at l
   injection l with l
   obtain ⟨D,u,p,q,B⟩:=f.cell _ _ _ _ d b
   injection p with p
   subst p
   rw[g] at q
   exact ⟨u,q,by rw[l];exact B⟩
 obtain ⟨vs,m,v⟩:=y.vals
 refine ⟨vs,by rw[<-xr m,jZ f.len],v,?_,m⟩
 refine QD ?_ m
 rw[List.all_eq_true]
 intro a x
 obtain ⟨r,o,n⟩:=List.mem_flatten.1 x
 exact List.all_eq_true.1 (C r o) a n
theorem Vx {a:Nat} {e:TypeId} {size:Nat} {v:Value} {k:Nat} {xs:List Value} (h:w.ownsRow B e size v k xs) (c:a<=B):w.ownsRow a e size v k xs:=by
 refine ⟨h.1,?_⟩
 rcases h.2 with b | ⟨g,cap,cur,f,d,r⟩
 ·exact .inl b
 ·exact .inr ⟨g,cap,cur,f,Nat.le_trans c d,r⟩
theorem YL {t ty e:TypeId} {i:TypeInfo} {z:Value} (x:P.underlying t=some (.slice e)) (p:P.info? e=some i) (C:i.zero=some z) (E:0<i.size)
  {D:Nat} {v:Value} {n:Nat} {xs:List Value} (h:w.ownsRow D e i.size v n xs) {l:Addr} {m c:Nat} {news:List Value} (q:news.length=m*i.size) (a:∀j u,news[j]? =some u->w.cell? (l.add j)=some u) (K:∀u∈news,u.oneCell'=true)
  (A:n+m<=maxLen) (d:(n+m)*i.bytes<=140737488355328) {v':Value} {w':World} (k:(Builtin.append_ #[t,t] ty #[v,.slice (some l) m c]).run P w= .ok v' w') (b:Nat) (s:v'.ownBlock=some b):
  v.ownBlock=some b∨w.heap.size<=b:=by
 have r:n+m<=9223372036854775807:=by simp only[maxLen] at A;omega
 rcases h.2 with ⟨rfl,rfl⟩ | ⟨g,cap,cur,rfl,F,H,J,G,y,B⟩
 ·by_cases I:m=0
  ·subst I
   have:(Builtin.append_ #[t,t] ty #[.slice none 0 0,.slice (some l) 0 c]).run P w= .ok (.slice none 0 0) w:=by
    simp[Builtin.append_,run_underlying x,sizeOf,typeInfo,p,Builtin.lenOf,Builtin.firstCells,loadCells,loadCellsFrom]
   rw[this] at k
   injection k with e1 e2
   subst e1
   simp[Value.ownBlock] at s
  ·rw[run_append_nil (P:=P) w t ty e i z x p C l m c news q a (by omega) (by omega) (by simp only[Nat.zero_add] at d;omega)] at k
   injection k with e1 e2
   subst e1
   simp[Value.ownBlock] at s
   exact .inr (by omega)
 ·by_cases f:n+m<=cap
  ·have o:n*i.size+news.length<=cur.size:=by rw[q,y, <-Nat.add_mul];exact Nat.mul_le_mul_right _ f
   rw[run_append_room (P:=P) w t ty e i x p g n cap cur H l m c news q a K f o] at k
   injection k with e1 e2
   subst e1
   exact .inl s
  ·have holds:∀j u,xs[j]? =some u->w.cell? ((⟨g,0,none⟩:Addr).add j)=some u:=h.cells (g:=g) rfl
   rw[run_append_grow (P:=P) w t ty e i z x p C ⟨g,0,none⟩ n cap xs h.1 holds l m c news q a (by omega) (by omega) (growslice_fits (by omega) d)] at k
   injection k with e1 e2
   subst e1
   simp[Value.ownBlock] at s
   exact .inr (by omega)
theorem YM (hh:HOk B w g h) (hB:B<=w.heap.size) {t ty e:TypeId} {s y:AV} {u v:Value} (hs:AR (ctx w g h) s u) (hy:AR (ctx w g h) y v) (L:(zi P t).kind= .slice e) (a:wL P h e s y=some (x,h')):
  DidV P (Builtin.append_ #[t,t] ty #[u,v]) B w g h x h':=by
 obtain ⟨d,it,hu,hit,eq⟩:=qa (qb L (by simp))
 rw[eq] at L
 cases d<;>try (cases L;done)
 injection L with L
 subst L
 rename_i e
 unfold wL at a
 cases o:zo h y with
 | none=>simp[o] at a
 | some ys=>
   simp only[o,Option.bind_some] at a
   split at a
   ·rename_i hc
    obtain ⟨ho,h0,T,M⟩:=hc
    obtain ⟨d',i,hu',W,J⟩:=qa ho
    have ξ:(zi P e).sz=i.size:=by rw[J]
    have υ:(zi P e).bytes=i.bytes:=by rw[J]
    rw[ξ] at h0 M T a
    rw[υ] at a
    cases D:i.zero with
    | none=>rw[J] at T;simp[D] at T
    | some z=>
      rw[J] at T
      have V:z.cells.size=i.size:=by simpa [D] using T
      have c:∀r∈ys,r.length=i.size/\r.all AV.one=true:=λr o=>by
       have:=List.all_eq_true.1 M r o
       simpa only[Bool.and_eq_true,beq_iff_eq] using this
      obtain ⟨A,k,e1,e2,e3,e4⟩:=xu hh _ hy o
      subst e1
      have q:(∃n,A=some n)->∃n news,A=some n/\news.length=ys.length*i.size/\(∀j u,news[j]? =some u->w.cell? (n.add j)=some u)/\(∀u∈news,u.oneCell'=true)/\ARs (ctx w g h) ys.flatten news:=by
       rintro ⟨n,rfl⟩
       cases f:ys with
       | nil=>exact ⟨n,[],rfl,by simp,by simp,by simp,rfl⟩
       | cons r rs=>
         cases Z:eOf h y with
         | none=>rw[e4 Z] at f;cases f
         | some X=>
           have K:=e3 X Z
           have σ:X=i.size:=by rw[<-K.len r (by rw[f];simp),(c r (by rw[f];simp)).1]
           subst σ
           obtain ⟨news,n1,n2,n3,n4⟩:=KC K λr o=>(c r o).2
           rw[<-f]
           exact ⟨n,news,rfl,n1,n2,n3,n4⟩
      have p:A=none->ys=[]:=λH=>by
       cases f:ys with
       | nil=>rfl
       | cons r rs=>
         cases Z:eOf h y with
         | none=>rw[e4 Z] at f;cases f
         | some X=>
           have K:=e3 X Z
           have hr0:=(c r (by rw[f];simp)).1
           obtain ⟨n,u,q1,_⟩:=K.cell 0 0 r (nth r 0) (by rw[f];rfl) (vW (by omega))
           rw[H] at q1;cases q1
      split at a
      ·rename_i id st
       split at a
       ·rename_i F X xs s C
        split at a
        ·rename_i τ
         obtain ⟨c1,c2,c3,c4⟩:=τ
         subst c1 c2 c3
         injection a with a
         injection a with hx1 hx2
         subst hx1 hx2
         have m:=Zw hs C
         obtain ⟨q0,q1,cells,q2,q3⟩:=hh.ok id _ C
         have E:w.ownsRow B F i.size (g.cur id) xs.length cells:=q2
         rw[<-m] at E
         have ν:xs.length+ys.length<=140737488355328:=Nat.le_trans (Nat.le_mul_of_pos_right _ (by omega)) c4
         have G:(xs.length+ys.length)*i.bytes<=140737488355328:=Nat.le_trans (Nat.mul_le_mul_left _ (by omega)) c4
         have θ:∀x∈xs++ys,x.length=i.size:=λx a=>by
          rcases List.mem_append.1 a with a | a
          ·exact q1 x a
          ·exact (c x a).1
         have fin:∀(v':Value) (w':World) (l:List Value),w'.ownsRow B F i.size v' (xs++ys).length l->ARs (ctx w g h) (xs++ys).flatten l->w.grownBy w' (g.cur id).ownBlock->(∀b,v'.ownBlock=some b->(g.cur id).ownBlock=some b∨w.heap.size<=b)->
           Good B w g h w' ⟨g.β,λj=>if j=id then v' else g.cur j⟩ (h.set id (.row F i.size (xs++ys) (s+1)))/\AR (ctx w' ⟨g.β,λj=>if j=id then v' else g.cur j⟩ (h.set id (.row F i.size (xs++ys) (s+1)))) (.tl id (s+1)) v':=λv' w' l Q S I r4=>by
          refine ⟨Z5 hh hB C θ I Q S (.inr (by omega)) r4,?_,⟨_,List.getElem?_set_self (jY C),rfl⟩,λs' ο=>?_⟩
          ·obtain ⟨A,cp,e1,_⟩:=xY Q;exact ⟨A,_,cp,e1⟩
          ·have:s+1=s':=by
            have:=ο
            simp only[ctx,List.getElem?_set_self (jY C),Ob.tok,Option.some.injEq] at this
            exact this
           exact ⟨by omega,λ_=>by simp[ctx]⟩
         cases H:A with
         | none=>
           have R:=p H
           subst R
           obtain ⟨A0,cp,z1,z2⟩:=xY E
           have o:=yo (P:=P) (w:=w) (ty:=ty) hu W A0 xs.length cp k z2
           rw[<-z1] at o
           obtain ⟨O,N⟩:=fin u w cells (by simpa using E) (by simpa using q3) ⟨rfl,rfl,rfl,Nat.le_refl _,λ_ _ _=>rfl⟩ (λb Y=> .inl (by have e:u=g.cur id:=m;rw[<-e];exact Y))
           exact ⟨_,_,_,by simpa using o,O,N⟩
         | some n=>
           obtain ⟨ι,news,n1,n2,n3,n4,n5⟩:=q ⟨n,H⟩
           rw[H] at n1
           injection n1 with n1
           subst n1
           obtain ⟨v',w',Q,S,I,r4⟩:=run_append_own (P:=P) w B t ty F i z i.size i.bytes hu W D rfl rfl V h0 u xs.length cells E n ys.length k news n2 n3 n4 (by simp only[maxLen];omega) G hB
           have η:w.grownBy w' (g.cur id).ownBlock:=by have e:u=g.cur id:=m;rw[<-e];exact I
           obtain ⟨O,N⟩:=fin v' w' (cells++news) (by rw[List.length_append];exact S) (by rw[List.flatten_append];exact xX q3 n5) η (λb Y=>by
            rcases YL (P:=P) (w:=w) hu W D h0 E n2 n3 n4 (by simp only[maxLen];omega) G Q b Y with h9 | h9
            ·have e:u=g.cur id:=m
             exact .inl (by rw[<-e];exact h9)
            ·exact .inr h9)
           exact ⟨_,_,_,Q,O,N⟩
        ·cases a
       ·cases a
      ·split at a
       ·rename_i c4
        injection a with a
        injection a with hx1 hx2
        subst hx1 hx2
        have hs:u= .slice none 0 0:=hs
        subst hs
        have ν:ys.length<=140737488355328:=Nat.le_trans (Nat.le_mul_of_pos_right _ (by omega)) c4
        have G:ys.length*i.bytes<=140737488355328:=Nat.le_trans (Nat.mul_le_mul_left _ (by omega)) c4
        cases H:A with
        | none=>
          have R:=p H
          subst R
          have o:=yo (P:=P) (w:=w) (ty:=ty) hu W none 0 0 k (Nat.le_refl _)
          obtain ⟨O,N⟩:=yz hh hB (ty:=e) h0 (xs:=[]) (by simp) 0 (Below.refl _ w) (World.ownsRow_nil w B e i.size) rfl (by simp[Value.ownBlock])
          exact ⟨_,_,_,by simpa using o,O,N⟩
        | some n=>
          obtain ⟨ι,news,n1,n2,n3,n4,n5⟩:=q ⟨n,H⟩
          rw[H] at n1
          injection n1 with n1
          subst n1
          obtain ⟨v',w',Q,S,I,r4⟩:=run_append_own (P:=P) w w.heap.size t ty e i z i.size i.bytes hu W D rfl rfl V h0 (.slice none 0 0) 0 [] (World.ownsRow_nil w _ e i.size) n ys.length k news n2 n3 n4 (by simp only[maxLen];omega) (by simpa using G) (Nat.le_refl _)
          have U:Below w.heap.size w w':=⟨I.os,I.tape,I.output,I.size,λk L=>I.block k L (by simp[Value.ownBlock])⟩
          obtain ⟨O,N⟩:=yz hh hB (ty:=e) h0 (λx a=>(c x a).1) 0 U (Vx (by simpa using S) hB) n5 (λb Y=>(World.ownsRow.lt S b Y).1)
          exact ⟨_,_,_,Q,O,N⟩
       ·cases a
      ·cases a
   ·cases a
end
end Go.Proofs.YtfmldcilgbbimaaGreat.Ax
