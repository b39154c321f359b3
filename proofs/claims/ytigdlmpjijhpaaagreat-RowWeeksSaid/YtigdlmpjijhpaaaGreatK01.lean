/-
  Joined.
-/
import Derived.Test.YtigdlmpjijhpaaaGreatK00
import Derived.Laws.CopyRow
import Derived.Great.BuildSlice
import Derived.Laws.OwnMore
set_option linter.unusedSimpArgs false
set_option linter.unusedVariables false
namespace Go.Proofs.YtigdlmpjijhpaaaGreat.Ax
open Go Go.RowKit
def Wj:Nat->List AV
 | 0=>[]
 | n+1=> .bad::Wj n
def yv (e:Nat):Nat->List AV->List (List AV)
 | 0,_=>[]
 | n+1,l=>l.take e::yv e n (l.drop e)
def kN (place:Nat->Option (Nat × Nat)) (aZ:List AV):List (Nat × AV)->Option (List AV)
 | []=>some aZ
 | (i,a)::r=>match place i,a.cells with
   | some (off,size),some c=>if c.length=size then (lay aZ off c).bind λb=>kN place b r else none
   | _,_=>none
def ZF (P:Program) (a:List (Nat × TypeId)) (i:Nat):Option (Nat × Nat):=a[i]?.map λf=>(f.1,(zi P f.2).sz)
def vC (sz:Nat) (i:Nat):Option (Nat × Nat):=some (i*sz,sz)
def evs (T:Nat->AV):List (Nat × Operand)->List (Nat × AV)
 | []=>[]
 | (i,x)::r=>(i,ev T x)::evs T r
def evl (T:Nat->AV):List Operand->List AV
 | []=>[]
 | x::r=>ev T x::evl T r
def jt:List AV->List AV->Option Bool
 | [],[]=>some true
 | .v (.int k a)::r,.v (.int k' b)::s=>if k=k' then (jt r s).map λt=>a==b && t else none
 | _,_=>none
def kp (P:Program):Nat->List (Nat × TypeId)->Bool
 | _,[]=>true
 | o,f::r=>f.1==o && (match (zi P f.2).kind with | .int _=>true | _=>false) && kp P (o+1) r
def vWa (P:Program) (e:TypeId):Bool:=(match (zi P e).kind with | .int _=>true | _=>false) && (zi P e).sz==1
def qU (P:Program) (t:TypeId):Bool:= !P.eqGuardType P.depth t && !P.stoodInHeld t && (P.fieldsOf t).toList.all λf=>f.name != "_"
def qra:BinOp->Bool
 | .shl | .shr=>true
 | _=>false
def YW (op:BinOp) (k:IntKind) (a b:Int):Option AV:=match op with
 | .shr=>some (.v (.int k (a.fdiv (2 ^ min b.toNat k.bits))))
 | .shl=>some (.v (.int k (k.wrap (a*2 ^ min b.toNat k.bits))))
 | _=>none
def YX (op:BinOp) (k:IntKind) (a b:Int):Option AV:=match op with
 | .add=>some (.v (.int k (k.wrap (a+b))))
 | .sub=>some (.v (.int k (k.wrap (a - b))))
 | .mul=>some (.v (.int k (k.wrap (a*b))))
 | .or=>some (.v (.int k (k.wrap ((BitVec.ofInt k.bits a ||| BitVec.ofInt k.bits b).toNat:Int))))
 | .quo=>if b=0 then none else some (.v (.int k (k.wrap (a.tdiv b))))
 | .rem=>if b=0 then none else some (.v (.int k (a.tmod b)))
 | .eql=>some (.v (.bool (a==b)))
 | .neq=>some (.v (.bool (a != b)))
 | .lss=>some (.v (.bool (decide (a<b))))
 | .leq=>some (.v (.bool (decide (a<=b))))
 | .gtr=>some (.v (.bool (decide (a>b))))
 | .geq=>some (.v (.bool (decide (a≥b))))
 | _=>none
def xCa (P:Program) (op:BinOp) (t:TypeId):AV->AV->Option AV
 | .v (.int k a),.v (.int k' b)=>if qra op then (if 0<=b then YW op k a b else none) else if k=k' then YX op k a b else none
 | .v (.bool a),.v (.bool b)=>match (zi P t).kind,op with
   | .bool,.eql=>some (.v (.bool (a==b)))
   | .bool,.neq=>some (.v (.bool (!(a==b))))
   | _,_=>none
 | .ag xs,.ag ys=>match (zi P t).kind,op with
   | .struct c,.eql=>if qU P t && kp P 0 c && xs.length==c.length then (jt xs ys).map λb=> .v (.bool b) else none
   | .struct c,.neq=>if qU P t && kp P 0 c && xs.length==c.length then (jt xs ys).map λb=> .v (.bool (!b)) else none
   | .arr n e,.eql=>if qU P t && vWa P e && xs.length==n then (jt xs ys).map λb=> .v (.bool b) else none
   | _,_=>none
 | .v (.pointer none),.v (.pointer none)=>match (zi P t).kind,op with
   | .ptr _,.eql=>some (.v (.bool true))
   | .ptr _,.neq=>some (.v (.bool false))
   | _,_=>none
 | .ptr _ _,.v (.pointer none)=>match (zi P t).kind,op with
   | .ptr _,.eql=>some (.v (.bool false))
   | .ptr _,.neq=>some (.v (.bool true))
   | _,_=>none
 | .v (.string a),.v (.string b)=>match op with
   | .eql=>some (.v (.bool (a.toList==b.toList)))
   | .neq=>some (.v (.bool (!(a.toList==b.toList))))
   | _=>none
 | _,_=>none
def VC:List (List AV)->Option (List UInt8)
 | []=>some []
 | [.v (.int .u8 n)]::r=>(VC r).map (UInt8.ofNat n.toNat:: ·)
 | _=>none
def xDa (P:Program) (s:TypeId) (rows:List (List AV)):Option AV:=match (zi P s).kind with
 | .slice e=>match (zi P e).kind with
   | .int .u8=>(VC rows).map λl=> .v (.string ⟨l.toArray⟩)
   | _=>none
 | _=>none
def Wk:AV->List AV->Option AV
 | a,[]=>some a
 | .v (.int k x),.v (.int _ y)::r=>Wk (.v (.int k (if y>x then y else x))) r
 | _,_=>none
def Wl:AV->List AV->Option AV
 | a,[]=>some a
 | .v (.int k x),.v (.int _ y)::r=>Wl (.v (.int k (if y<x then y else x))) r
 | _,_=>none
def yw (h:List Ob) (τ:Ty):AV->Option AV
 | .ptr id off=>match h[id]? with
   | some (.box _ b)=>if τ.ok then part b off τ.agg τ.sz else none
   | _=>none
 | .ep a e i k=>if τ.ok/\eOf h a=some e then (zo h a).bind λxs=>xs[i]?.bind λr=>part r k τ.agg τ.sz else none
 | _=>none
def vD (h:List Ob) (ns:List AV):AV->Option (List Ob)
 | .ptr id off=>match h[id]? with
   | some (.box ty d)=>(lay d off ns).map λa=>h.set id (.box ty a)
   | _=>none
 | .ep (.tl id st) e i k=>match h[id]? with
   | some (.row ty c xs s)=>if s=st/\c=e then xs[i]?.bind λr=>(lay r k ns).map λb=>h.set id (.row ty e (xs.set i b) st) else none
   | _=>none
 | _=>none
def YY (h:List Ob) (n:Int) (a:AV):Option AV:=
 (zo h a).bind λxs=>(eOf h a).bind λe=>if 0<=n/\n<xs.length then some (.ep a e n.toNat 0) else none
def wS (P:Program) (h:List Ob) (e:TypeId) (s x:AV):Option (AV × List Ob):=
 let τ:=zi P e
 (zo h x).bind λys=>
  if τ.ok/\0<τ.sz/\(τ.zero.map List.length)=some τ.sz/\ys.all (λr=>r.length==τ.sz && r.all AV.one) then
   match s with
   | .tl id st=>match h[id]? with
     | some (.row ty a xs s)=>if s=st/\ty=e/\a=τ.sz/\(xs.length+ys.length)*(τ.bytes+1)<=140737488355328 then some (.tl id (st+1),h.set id (.row ty a (xs++ys) (st+1))) else none
     | _=>none
   | .v (.slice none 0 0)=>if ys.length*(τ.bytes+1)<=140737488355328 then some (.tl h.length 0,h++[.row e τ.sz ys 0]) else none
   | _=>none
  else none
def yZa:AV->Bool
 | .em=>true
 | _=>false
def yH:AV->Bool
 | .v (.slice none _ _)=>true
 | _=>false
def VD:Option (List (List AV))->Option Nat->Bool
 | some (_::_),some e=>decide (0<e)
 | _,_=>false
def ZG (h:List Ob) (a:AV):Bool:=yZa a || VD (zo h a) (eOf h a)
def J4 (op:BinOp) (b:Bool):Option AV:=match op with
 | .eql=>some (.v (.bool b))
 | .neq=>some (.v (.bool (!b)))
 | _=>none
def Wm (P:Program) (h:List Ob) (op:BinOp) (t:TypeId) (a:AV):Option AV:=match (zi P t).kind with
 | .slice _=>if yH a then J4 op true else if ZG h a then J4 op false else none
 | _=>none
def Zc:Operand->Bool
 | .const (.slice none _ _)=>true
 | _=>false
def jI (h:List Ob):AV->Option (Nat × Nat × Nat × Nat)
 | .tl id st=>match h[id]? with
   | some (.row _ _ xs s)=>if s=st then some (id,st,0,xs.length) else none
   | _=>none
 | .vw (.tl id st) e i n=>match h[id]? with
   | some (.row _ a xs s)=>if s=st/\a=e/\i+n<=xs.length then some (id,st,i,n) else none
   | _=>none
 | _=>none
def ju (xs:List (List AV)) (i:Nat) (ys:List (List AV)):List (List AV):=xs.take i++ys++xs.drop (i+ys.length)
def jZ (h:List Ob) (id i:Nat) (ty e:Nat) (ys:List (List AV)):Option (List Ob):=match h[id]? with
 | some (.row a b xs st)=>if a=ty/\b=e/\ys.all (λr=>r.length==e && r.all AV.one) then some (h.set id (.row a b (ju xs i ys) st)) else none
 | _=>none
def wA (P:Program) (T:Nat->AV) (h:List Ob) (c:Call):Option (AV × List Ob):=
 match c.callee,c.args.toList,c.argTypes.toList with
 | .builtin .len,[x],[t]=>match (zi P t).kind with
   | .slice _=>(zo h (ev T x)).map λxs=>(.v (.int .i64 xs.length),h)
   | _=>none
 | .builtin .append,[s,x],[t,a]=>match (zi P t).kind with
   | .slice e=>if a=t then wS P h e (ev T s) (ev T x) else none
   | _=>none
 | .builtin .clear,[x],[t]=>match (zi P t).kind with
   | .slice e=>(jI h (ev T x)).bind λ(id,_,i,n)=>(zi P e).zero.bind λz=>
     if (zi P e).ok/\z.length=(zi P e).sz then (jZ h id i e (zi P e).sz (List.replicate n (z.map .v))).map λh'=>(.tup [],h') else none
   | _=>none
 | .builtin .copy,[d,x],[t,a]=>match (zi P t).kind with
   | .slice e=>if a=t/\(zi P e).ok/\0<(zi P e).sz then (jI h (ev T d)).bind λ(id,_,i,n)=>(zo h (ev T x)).bind λys=>
     (jZ h id i e (zi P e).sz (ys.take n)).map λh'=>(.v (.int .i64 ((ys.take n).length:Nat)),h') else none
   | _=>none
 | .builtin .max,x::r,_=>(Wk (ev T x) (evl T r)).map (·,h)
 | .builtin .min,x::r,_=>(Wl (ev T x) (evl T r)).map (·,h)
 | _,_,_=>none
def qsa (τ:Ty):Option AV:=if τ.one then τ.zero.bind λz=>z.head?.map .v else none
def qo (P:Program) (T:Nat->AV):Op->Option (Ob × (Nat->AV))
 | .alloc t=>if (zi P t).ok then (zi P t).zero.map λz=>(.box t (z.map .v),λi=> .ptr i 0) else none
 | .box t x=>(ev T x).cells.map λa=>(.box t a,λi=> .ptr i 0)
 | .buildSlice t n b=>match (zi P t).kind with
   | .slice e=>if (zi P e).ok/\0<(zi P e).sz/\n*(zi P e).sz<=16777216/\(zi P e).zero.isSome then
     (kN (vC (zi P e).sz) (Wj (n*(zi P e).sz)) (evs T b.toList)).map λa=>(.row e (zi P e).sz (yv (zi P e).sz n a) 0,λi=> .tl i 0) else none
   | _=>none
 | .makeSlice t l c=>match (zi P t).kind,ev T l,ev T c with
   | .slice e,.v (.int _ n),.v (.int _ m)=>if n=m/\0<=n/\n*((zi P e).bytes+1)<=140737488355328/\(zi P e).ok/\0<(zi P e).sz/\((zi P e).zero.map List.length)=some (zi P e).sz then
     (zi P e).zero.map λz=>(.row e (zi P e).sz (List.replicate n.toNat (z.map .v)) 0,λi=> .tl i 0) else none
   | _,_,_=>none
 | .makeMap t none=>match (zi P t).kind with
   | .mapk _ _=>some (.mapo [],λi=> .mp i)
   | _=>none
 | _=>none
def jJ:AV × AV->Int
 | (.v (.int _ m),_)=>m
 | _=>0
def jV (kk:IntKind):List (AV × AV)->Bool
 | []=>true
 | (.v (.int k _),_)::r=>k==kk && jV kk r
 | _=>false
def qE (kk:IntKind) (n:Int) (v:AV):List (AV × AV)->List (AV × AV)
 | []=>[(.v (.int kk n),v)]
 | p::r=>if n<jJ p then (.v (.int kk n),v)::p::r else p::qE kk n v r
def jy (n:Int):List (AV × AV)->Bool
 | []=>false
 | p::r=>jJ p==n || jy n r
def qV (kk:IntKind) (n:Int) (v:AV):List (AV × AV)->List (AV × AV)
 | []=>[]
 | p::r=>(if jJ p=n then (.v (.int kk n),v) else p)::qV kk n v r
def yB (kk:IntKind) (n:Int) (v:AV) (es:List (AV × AV)):Option (List (AV × AV)):=
 if jV kk es then some (if jy n es then qV kk n v es else qE kk n v es) else none
def yx (n:Int) (z:AV):List (AV × AV)->AV × Bool
 | []=>(z,false)
 | p::r=>(if jJ p=n then p.2 else (yx n z r).1,jJ p==n || (yx n z r).2)
def Wn (kk:IntKind) (n:Int) (z:AV) (es:List (AV × AV)):Option (AV × Bool):=if jV kk es then some (yx n z es) else none
def wi (T:Nat->AV) (d:Int):Option Operand->Option Int
 | none=>some d
 | some x=>match ev T x with
   | .v (.int _ n)=>some n
   | _=>none
def zn (P:Program) (T:Nat->AV) (h:List Ob):Op->Option (AV × List Ob)
 | .move x=>some (ev T x,h)
 | .assign x=>some (ev T x,h)
 | .pick c a b=>match ev T c with
   | .v (.bool t)=>some (if t then ev T a else ev T b,h)
   | _=>none
 | .alloc t=>(qo P T (.alloc t)).map λq=>(q.2 h.length,h++[q.1])
 | .box t x=>(qo P T (.box t x)).map λq=>(q.2 h.length,h++[q.1])
 | .buildSlice t n o=>(qo P T (.buildSlice t n o)).map λq=>(q.2 h.length,h++[q.1])
 | .makeSlice t l c=>(qo P T (.makeSlice t l c)).map λq=>(q.2 h.length,h++[q.1])
 | .makeMap t r=>(qo P T (.makeMap t r)).map λq=>(q.2 h.length,h++[q.1])
 | .build t o=>match (zi P t).kind with
   | .struct j=>if j.all (λf=>(zi P f.2).ok) then (zi P t).zero.bind λz=>(kN (ZF P j) (z.map .v) (evs T o.toList)).map λg=>(.ag g,h) else none
   | .arr _ e=>if (zi P e).ok then (zi P t).zero.bind λz=>(kN (vC (zi P e).sz) (z.map .v) (evs T o.toList)).map λg=>(.ag g,h) else none
   | _=>none
 | .load t a=>(yw h (zi P t) (ev T a)).map (·,h)
 | .store t a x=>if (zi P t).ok then (ev T x).cells.bind λns=>if ns.length=(zi P t).sz then (vD h ns (ev T a)).map λh'=>(.v undef,h') else none else none
 | .nilCheck x=>match ev T x with
   | .ptr id off=>some (.ptr id off,h)
   | .ep a e i k=>some (.ep a e i k,h)
   | .fn (.func f) a b=>some (.fn (.func f) a b,h)
   | _=>none
 | .binOp op t x y _=>(if Zc y then Wm P h op t (ev T x) else xCa P op t (ev T x) (ev T y)).map (·,h)
 | .unOp op _ x=>match op,ev T x with
   | .neg,.v (.int k n)=>some (.v (.int k (k.wrap (0 - n))),h)
   | .not,.v (.bool b)=>some (.v (.bool (!b)),h)
   | _,_=>none
 | .convert s d x=>match (zi P s).ok,(zi P d).kind,ev T x with
   | true,.int k,.v (.int _ n)=>some (.v (.int k (k.wrap n)),h)
   | true,.str,.sl 1 rows=>(xDa P s rows).map (·,h)
   | _,_,_=>none
 | .makeFunc f a b=>some (.fn f (evl T a.toList) (evl T b.toList),h)
 | .fieldAddr t x i=>match (zi P t).kind with
   | .struct j=>j[i]?.bind λf=>if (zi P f.2).ok/\0<(zi P f.2).sz then (match ev T x with
     | .ptr id off=>some (.ptr id (off+f.1),h)
     | .ep a e i k=>some (.ep a e i (k+f.1),h)
     | _=>none) else none
   | _=>none
 | .field t x i=>match (zi P t).kind,ev T x with
   | .struct j,.ag g=>j[i]?.bind λf=>if (zi P f.2).ok then (part g f.1 (zi P f.2).agg (zi P f.2).sz).map (·,h) else none
   | _,_=>none
 | .indexAddr t x i=>match (zi P t).kind,ev T i with
   | .slice e,.v (.int _ n)=>if (zi P e).ok/\0<(zi P e).sz/\eOf h (ev T x)=some (zi P e).sz then (YY h n (ev T x)).map (·,h) else none
   | .arr m e,.v (.int _ n)=>if (zi P e).ok/\0<=n/\n<m then (match ev T x with
     | .ptr id off=>some (.ptr id (off+n.toNat*(zi P e).sz),h)
     | .ep a B i k=>some (.ep a B i (k+n.toNat*(zi P e).sz),h)
     | _=>none) else none
   | _,_=>none
 | .index t x i=>match (zi P t).kind,ev T x,ev T i with
   | .arr m e,.ag g,.v (.int _ n)=>if (zi P e).ok/\0<=n/\n<m then (part g (n.toNat*(zi P e).sz) (zi P e).agg (zi P e).sz).map (·,h) else none
   | _,_,_=>none
 | .slice t x lo A none=>match (zi P t).kind with
   | .slice e=>(zo h (ev T x)).bind λxs=>(wi T 0 lo).bind λl=>(wi T xs.length A).bind λm=>
     if (zi P e).ok/\0<=l/\l<=m/\m<=xs.length/\(l=m∨(0<(zi P e).sz/\eOf h (ev T x)=some (zi P e).sz)) then some (.vw (ev T x) (zi P e).sz l.toNat (m.toNat - l.toNat),h) else none
   | _=>none
 | .insert t m k v=>match (zi P t).kind,ev T m,ev T k with
   | .mapk u _,.mp id,.v (.int kk n)=>match (zi P u).kind,h[id]? with
     | .int kk',some (.mapo es)=>if kk'=kk then (yB kk n (ev T v) es).map λes'=>(.v undef,h.set id (.mapo es')) else none
     | _,_=>none
   | _,_,_=>none
 | .lookup t m k ok=>match (zi P t).kind,ev T m,ev T k with
   | .mapk u w,.mp id,.v (.int kk n)=>match (zi P u).kind,h[id]?,qsa (zi P w) with
     | .int kk',some (.mapo es),some z=>if kk'=kk then (Wn kk n z es).map λp=>(if ok then .tup [p.1,.v (.bool p.2)] else p.1,h) else none
     | _,_,_=>none
   | _,_,_=>none
 | .extract x i=>match ev T x with
   | .tup g=>if i<g.length then some (nth g i,h) else none
   | _=>none
 | .call c=>wA P T h c
 | _=>none
section
variable {c:Ctx}
theorem Wo:∀(vs:List Value),ARs c (Wj vs.length) vs
 | []=>rfl
 | v::r=>⟨v,r,rfl,trivial,Wo r⟩
theorem Wp (off:Nat):∀(us:List Value) (k:Nat) (cells:Array Value),off+k+us.length<=cells.size->
  ((us.zipIdx k).foldl (λd (p:Value × Nat)=>d.setIfInBounds (off+p.2) p.1) cells).toList=cells.toList.take (off+k)++us++cells.toList.drop (off+k+us.length)
 | [],k,cells,_=>by simp
 | u::us,k,cells,h=>by
   have h:off+k+(us.length+1)<=cells.size:=by simpa using h
   rw[List.zipIdx_cons,List.foldl_cons,Wp off us (k+1) _ (by simp;omega)]
   apply List.ext_getElem?
   intro j
   simp only[Array.toList_setIfInBounds,List.getElem?_append,List.length_take,List.length_set,Array.length_toList,List.length_append,List.length_cons]
   by_cases a:j<off+k
   ·simp[a,show j<off+(k+1) by omega,show min (off+(k+1)) cells.size=off+(k+1) by omega,show min (off+k) cells.size=off+k by omega,show j<off+(k+1)+us.length by omega,show j<off+k+(us.length+1) by omega,show off+k≠j by omega]
   ·by_cases c:j=off+k
    ·subst c
     simp[show min (off+(k+1)) cells.size=off+(k+1) by omega,show min (off+k) cells.size=off+k by omega,show off+k<off+(k+1) by omega,show off+k<off+(k+1)+us.length by omega,show off+k<cells.size by omega]
    ·by_cases b:j<off+k+(us.length+1)
     ·simp[a,b,show ¬ j<off+(k+1) by omega,show min (off+(k+1)) cells.size=off+(k+1) by omega,show min (off+k) cells.size=off+k by omega,show j<off+(k+1)+us.length by omega,show j - (off+k)=(j - (off+(k+1)))+1 by omega]
     ·simp[a,b,show ¬ j<off+(k+1)+us.length by omega,show min (off+(k+1)) cells.size=off+(k+1) by omega,show min (off+k) cells.size=off+k by omega]
      rw[List.getElem?_set_ne (by omega)]
      rw[show off+(k+1)+us.length+(j - (off+(k+1)+us.length))=j by omega,show off+k+(us.length+1)+(j - (off+k+(us.length+1)))=j by omega]
      simp
def y0a (c:Ctx):List (Nat × AV)->List (Nat × Value)->Prop
 | [],b=>b=[]
 | (i,a)::r,b=>∃v q,b=(i,v)::q/\AR c a v/\y0a c r q
theorem Qe (place:Nat->Option (Nat × Nat)):∀(t:List (Nat × AV)) (d:List (Nat × Value)) (aZ rs:List AV) (cells:Array Value),y0a c t d->ARs c aZ cells.toList->kN place aZ t=some rs->
  ∃b,Instr.fill place cells d=some b/\ARs c rs b.toList
 | [],d,aZ,rs,cells,k,o,h=>by
   have k:d=[]:=k
   subst k
   injection h with h
   subst h
   exact ⟨cells,rfl,o⟩
 | (i,a)::r,d,aZ,rs,cells,⟨v,q,C,D,w⟩,o,h=>by
   subst C
   simp only[kN] at h
   split at h
   ·rename_i off size e l n
    split at h
    ·rename_i s
     cases g:lay aZ off e with
     | none=>rw[g] at h;cases h
     | some m=>
       rw[g] at h
       obtain ⟨p,F⟩:=J2 n D
       have j:v.cells.size=size:=by
        have:=xy p
        simp at this
        omega
       obtain ⟨E,z⟩:=Qb o off p g
       have y:off+v.cells.size<=cells.size:=by simpa using z
       have A:=Wp off v.cells.toList 0 cells (by simpa using y)
       have f:(v.cells.zipIdx.foldl (λe (x:Value × Nat)=>e.setIfInBounds (off+x.2) x.1) cells).toList=cells.toList.take off++v.cells.toList++cells.toList.drop (off+v.cells.toList.length):=by
        rw[<-Array.foldl_toList,Array.toList_zipIdx]
        simpa using A
       obtain ⟨b,u,B⟩:=Qe place r q m rs (v.cells.zipIdx.foldl (λe (x:Value × Nat)=>e.setIfInBounds (off+x.2) x.1) cells) w (by rw[f];exact E) h
       refine ⟨b,?_,B⟩
       simp only[Instr.fill,l,j]
       rw[if_neg (by simp;omega)]
       exact u
    ·cases h
   ·cases h
theorem Zw (e:Nat):∀(n:Nat) (l:List AV),l.length=n*e->(yv e n l).flatten=l/\(∀x∈yv e n l,x.length=e)/\(yv e n l).length=n
 | 0,l,h=>by
   have:l=[]:=List.eq_nil_of_length_eq_zero (by simpa using h)
   subst this
   simp[yv]
 | n+1,l,h=>by
   rw[Nat.succ_mul] at h
   obtain ⟨b,d,c⟩:=Zw e n (l.drop e) (by simp;omega)
   refine ⟨by simp[yv,b],λx a=>?_,by simp[yv,c]⟩
   simp only[yv,List.mem_cons] at a
   rcases a with rfl | a
   ·simp;omega
   ·exact d x a
end
section
variable {B:Nat} {w:World} {g:Gh} {h h':List Ob} {P:Program} {T:Nat->AV} {a:Act} {x:AV}
def Did (P:Program) (s:Sem Next) (B:Nat) (w:World) (g:Gh) (h:List Ob) (x:AV) (h':List Ob):Prop:=
 ∃a v w' g',s.run P w= .ok a w'/\(a= .value v∨(a= .skip/\v=undef))/\Good B w g h w' g' h'/\AR (ctx w' g' h') x v
def DidV (P:Program) (s:Sem Value) (B:Nat) (w:World) (g:Gh) (h:List Ob) (x:AV) (h':List Ob):Prop:=
 ∃v w' g',s.run P w= .ok v w'/\Good B w g h w' g' h'/\AR (ctx w' g' h') x v
theorem DidV.did {s:Sem Value} (d:DidV P s B w g h x h'):Did P (do pure (.value (<-s))) B w g h x h':=by
 obtain ⟨v,w',g',a,c,b⟩:=d
 exact ⟨.value v,v,w',g',by simp[a],.inl rfl,c,b⟩
theorem qr {s:Sem Value} {v:Value} (c:HOk B w g h) (hB:B<=w.heap.size) (b:s.run P w= .ok v w) (a:AR (ctx w g h) x v):DidV P s B w g h x h:=
 ⟨v,w,g,b,Good.refl c hB,a⟩
def kW (c:Ctx) (T:Nat->AV) (a:Act):Prop:=∀i,AR c (T i) (a.tmps.getD i undef)
theorem qy {c:Ctx} (b:kW c T a):∀(x:Operand),AR c (ev T x) (a.eval x)
 | .tmp i=>b i
 | .const x=>yVa x
 | .func f=>⟨#[], #[],rfl,rfl,rfl⟩
 | .global _=>trivial
theorem vE {c:Ctx} (b:kW c T a) {x:Operand} {u:Value} (e:ev T x= .v u):a.eval x=u:=by
 have:=qy b x;rw[e] at this;exact this
theorem ZH {c:Ctx} (b:kW c T a):∀(l:List Operand),ARs c (evl T l) (l.map a.eval)
 | []=>rfl
 | x::r=>⟨_,_,rfl,qy b x,ZH b r⟩
theorem JS {c:Ctx} (b:kW c T a):∀(l:List (Nat × Operand)),y0a c (evs T l) (l.map λ(i,x)=>(i,a.eval x))
 | []=>rfl
 | (i,x)::r=>⟨_,_,rfl,qy b x,JS b r⟩
theorem VE {t:TypeId} {z:List Value} (h:(zi P t).zero=some z):(zi P t).ok=true:=by
 unfold zi at h⊢
 split at h
 ·rfl
 ·cases h
theorem qh {t:TypeId} {k:K} (h:(zi P t).kind=k) (a:k≠ .other):(zi P t).ok=true:=by
 unfold zi at h⊢
 split at h
 ·rfl
 ·exact absurd h.symm a
theorem J5 {t:TypeId} {i:TypeInfo} {z:Value} (a:P.info? t=some i) (b:i.zero=some z):(zeroValue t).run P w= .ok z w:=by simp[zeroValue,typeInfo,a,b]
inductive Made (B:Nat) (w:World) (g:Gh) (h:List Ob) (w':World) (v:Value):Ob->(Nat->AV)->Prop where
 | box (ty:TypeId) (cs:List AV) (vs:Array Value) (hw:w'=w.alloc (.cells vs ty)) (hv:v= .pointer (some ⟨w.heap.size,0,none⟩)) (hn:ARs (ctx w g h) cs vs.toList):Made B w g h w' v (.box ty cs) λi=> .ptr i 0
 | row (ty e:Nat) (xs:List (List AV)) (cells:List Value) (he:0<e) (hx:∀x∈xs,x.length=e) (hb:Below w.heap.size w w') (hown:w'.ownsRow B ty e v xs.length cells) (hn:ARs (ctx w g h) xs.flatten cells)
   (hbl:∀b,v.ownBlock=some b->w.heap.size<=b):Made B w g h w' v (.row ty e xs 0) λi=> .tl i 0
 | map (hw:w'=w.alloc (.map #[] 0)) (hv:v= .map (some w.heap.size)):Made B w g h w' v (.mapo []) λi=> .mp i
theorem Made.more {w':World} {v:Value} {o:Ob} {mk:Nat->AV} (m:Made B w g h w' v o mk) (b:HOk B w g h) (hB:B<=w.heap.size):∃g',Good B w g h w' g' (h++[o])/\AR (ctx w' g' (h++[o])) (mk h.length) v:=by
 cases m with
 | box ty n vs i d f=>subst i d;exact ⟨_,xAa b hB f⟩
 | row ty e xs cells l k j a f c=>exact ⟨_,yF b hB l k 0 j a f c⟩
 | map i d=>subst i d;exact ⟨_,xBa b hB⟩
theorem Made.at {w':World} {v:Value} {o:Ob} {mk:Nat->AV} (m:Made B w g h w' v o mk) (b:HOk B w g h) (hB:B<=w.heap.size) {i:Nat} (d:h[i]? =some .res):∃g',Good B w g h w' g' (h.set i o)/\AR (ctx w' g' (h.set i o)) (mk i) v:=by
 cases m with
 | box ty q vs k f j=>subst k f;exact ⟨_,yWa b hB d j⟩
 | row ty e xs cells p n l a j c=>exact ⟨_,yXa b hB d p n 0 l a j c⟩
 | map k f=>subst k f;exact ⟨_,yYa b hB d⟩
theorem Made.live {w':World} {v:Value} {o:Ob} {mk:Nat->AV} (m:Made B w g h w' v o mk):o.isRes=false:=by cases m<;>rfl
theorem q8a (k:HOk B w g h) {t:TypeId} {z:List Value} (c:(zi P t).ok=true) (a:(zi P t).zero=some z):
  ∃v w',(Instr.alloc t true (.tuple #[])).run P w= .ok v w'/\Made B w g h w' v (.box t (z.map .v)) (λi=> .ptr i 0):=by
 obtain ⟨d,i,l,j,e⟩:=qd c
 rw[e] at a
 cases b:i.zero with
 | none=>rw[b] at a;cases a
 | some f=>
   rw[b] at a
   injection a with a
   subst a
   exact ⟨_,_,by simp[Instr.alloc,J5 j b,newVar,newRow],.box t _ f.cells rfl rfl (Qa _)⟩
theorem vXa (d:HOk B w g h) {t:TypeId} {y:AV} {v:Value} {a:List AV} (c:AR (ctx w g h) y v) (b:y.cells=some a):
  ∃u w',(Instr.box t v).run P w= .ok u w'/\Made B w g h w' u (.box t a) (λi=> .ptr i 0):=
 ⟨_,_,by simp[Instr.box,newVar,newRow],.box t _ v.cells rfl rfl (J2 b c).1⟩
theorem KH:∀(a:List Field),(a.all λf=>(zi P f.type).ok)=true->a.mapM (λf=>(P.info? f.type).map λi=>(f.offset,i.size))=some (a.map λf=>(f.offset,(zi P f.type).sz))
 | [],_=>rfl
 | f::a,h=>by
   rw[List.all_cons,Bool.and_eq_true] at h
   obtain ⟨d,i,c,b,e⟩:=qd h.1
   simp[List.mapM_cons,b,KH a h.2,e]
theorem q9a (D:HOk B w g h) (hB:B<=w.heap.size) (E:kW (ctx w g h) T a) {t:TypeId} {p:Array (Nat × Operand)} {o:List (Nat × TypeId)} {z:List Value} {r:List AV}
  (m:(zi P t).kind= .struct o) (s:o.all (λf=>(zi P f.2).ok)=true) (k:(zi P t).zero=some z) (C:kN (ZF P o) (z.map .v) (evs T p.toList)=some r):
  DidV P (Instr.build t (p.map λ(i,x)=>(i,a.eval x))) B w g h (.ag r) h:=by
 have F:=VE k
 obtain ⟨d,i,A,G,e⟩:=qd F
 rw[e] at k m
 cases d<;>try (cases m;done)
 rename_i fields
 injection m with m
 cases l:i.zero with
 | none=>rw[l] at k;cases k
 | some u=>
   rw[l] at k
   injection k with k
   subst k
   have n:(fields.toList.all λf=>(zi P f.type).ok)=true:=by rw[<-m,List.all_map] at s;exact s
   have q:=KH (P:=P) fields.toList n
   obtain ⟨b,y,H⟩:=Qe (c:=ctx w g h) (ZF P o) (evs T p.toList) (p.toList.map λ(i,x)=>(i,a.eval x)) _ r u.cells (JS E _) (Qa _) C
   refine qr D hB (v:= .agg b) (run_build w t _ b ?_) ⟨b,rfl,H⟩
   unfold Program.built
   simp only[G,A,l,q]
   have:(λx=>(fields.toList.map λf=>(f.offset,(zi P f.type).sz)).toArray[x]?)=ZF P o:=by
    funext j
    rw[<-m]
    simp[ZF,Option.map_map,Function.comp_def]
   rw[this]
   simpa using y
theorem Kr (G:HOk B w g h) (hB:B<=w.heap.size) (H:kW (ctx w g h) T a) {t e:TypeId} {m:Nat} {l:Array (Nat × Operand)} {z:List Value} {p:List AV}
  (o:(zi P t).kind= .arr m e) (K:(zi P e).ok=true) (f:(zi P t).zero=some z) (F:kN (vC (zi P e).sz) (z.map .v) (evs T l.toList)=some p):
  DidV P (Instr.build t (l.map λ(i,x)=>(i,a.eval x))) B w g h (.ag p) h:=by
 have I:=VE f
 obtain ⟨d,i,E,J,D⟩:=qd I
 rw[D] at f o
 cases d<;>try (cases o;done)
 rename_i n k
 injection o with hk1 hk2
 subst hk2
 obtain ⟨M,A,y,r,q⟩:=qd K
 cases j:i.zero with
 | none=>rw[j] at f;cases f
 | some u=>
   rw[j] at f
   injection f with f
   subst f
   obtain ⟨b,C,L⟩:=Qe (c:=ctx w g h) (vC (zi P k).sz) (evs T l.toList) (l.toList.map λ(i,x)=>(i,a.eval x)) _ p u.cells (JS H _) (Qa _) F
   refine qr G hB (v:= .agg b) (run_build w t _ b ?_) ⟨b,rfl,L⟩
   unfold Program.built
   simp only[J,E,j,r]
   have s:A.size=(zi P k).sz:=by rw[q]
   rw[s]
   have:(λi=>some (i*(zi P k).sz,(zi P k).sz))=vC (zi P k).sz:=rfl
   rw[this]
   simpa using C
theorem YZ (hh:HOk B w g h) (hB:B<=w.heap.size) (hT:kW (ctx w g h) T a) {t e:TypeId} {n:Nat} {s:Array (Nat × Operand)} {A:List AV}
  (u:(zi P t).kind= .slice e) (ho:(zi P e).ok=true) (h0:0<(zi P e).sz) (Z:n*(zi P e).sz<=16777216) (F:(zi P e).zero.isSome=true)
  (L:kN (vC (zi P e).sz) (Wj (n*(zi P e).sz)) (evs T s.toList)=some A):
  ∃v w',(Instr.buildSlice t n (s.map λ(i,x)=>(i,a.eval x))).run P w= .ok v w'/\Made B w g h w' v (.row e (zi P e).sz (yv (zi P e).sz n A) 0) (λi=> .tl i 0):=by
 have ht:=qh u (by simp)
 obtain ⟨d,i,S,hi,eq⟩:=qd ht
 rw[eq] at u
 cases d<;>try (cases u;done)
 injection u with u
 subst u
 rename_i e
 obtain ⟨d',o,η,H,I⟩:=qd ho
 have E:(zi P e).sz=o.size:=by rw[I]
 rw[E] at h0 Z L⊢
 cases G:o.zero with
 | none=>rw[I] at F;simp[G] at F
 | some z=>
   obtain ⟨k,R,V⟩:=Qe (c:=ctx w g h) (vC o.size) (evs T s.toList) (s.toList.map λ(i,x)=>(i,a.eval x)) _ A ((Array.range (n*o.size)).map (z.cells[· % z.cells.size]!)) (JS hT _)
    (by have:=Wo (c:=ctx w g h) ((Array.range (n*o.size)).map (z.cells[· % z.cells.size]!)).toList;simpa using this) L
   have K:A.length=n*o.size:=by
    have key:∀(l:List (Nat × AV)) (aZ rs:List AV),kN (vC o.size) aZ l=some rs->rs.length=aZ.length:=by
     intro l
     induction l with
     | nil=>intro aZ rs h;injection h with h;rw[h]
     | cons p l O=>
       intro aZ rs h
       obtain ⟨j,y⟩:=p
       simp only[kN] at h
       split at h
       ·split at h
        ·rename_i off size us hp hy hl
         cases q:lay aZ off us with
         | none=>rw[q] at h;cases h
         | some δ=>rw[q] at h;rw[O _ _ h,JQ q]
        ·cases h
       ·cases h
    have M:∀m,(Wj m).length=m:=λm=>by induction m with | zero=>rfl | succ m O=>simp[Wj,O]
    rw[key _ _ _ L,M]
   obtain ⟨X,c2,c3⟩:=Zw o.size n A K
   have r:k.size=n*o.size:=by have:=xy V;simp at this;omega
   have J:(Instr.buildSlice t n (s.map λ(i,x)=>(i,a.eval x))).run P w= .ok (.slice (some ⟨w.heap.size,0,none⟩) n n) (w.alloc (.cells k e)):=by
    by_cases C:n*o.size=0
    ·have Q:n=0:=by
      rcases Nat.mul_eq_zero.1 C with h | h
      ·exact h
      ·omega
     subst Q
     have e0:((Array.range 0).map (z.cells[· % z.cells.size]!))= #[]:=by simp
     have U:Instr.fill (λi=>some (i*o.size,o.size)) #[] (s.map λ(i,x)=>(i,a.eval x)).toList=some k:=by
      have:=R
      rw[Nat.zero_mul,e0] at this
      rw[Array.toList_map]
      exact this
     generalize (s.map λ(i,x)=>(i,a.eval x))=qs at U
     have W:∀f:Nat->Value,(Array.range 0).map f= #[]:=λf=>by simp[Array.range]
     simp[Instr.buildSlice,run_underlying S,sizeOf,typeInfo,H,W,U,newRow]
    ·exact run_buildSlice w t e n _ k o z S H G (by omega) C (by rw[Array.toList_map];exact R)
   have Y:n<=maxLen:=by
    have:n<=n*o.size:=Nat.le_mul_of_pos_right n h0
    simp only[maxLen]
    omega
   have N:k.toList.take (n*o.size)=k.toList:=List.take_of_length_le (by simp[r])
   have D:(w.alloc (.cells k e)).ownsRow B e o.size (.slice (some ⟨w.heap.size,0,none⟩) n n) (yv o.size n A).length k.toList:=by
    rw[c3]
    exact ⟨by simpa using r,.inr ⟨w.heap.size,n,k,rfl,hB,heap_alloc_new w _,Nat.le_refl _,Y,r,N⟩⟩
   exact ⟨_,_,J,.row e o.size _ _ h0 c2 ((Below.refl _ w).alloc (Nat.le_refl _) _) D (by rw[X];exact V) (λb M=>by simp[Value.ownBlock] at M;omega)⟩
theorem Zx (z:Array Value) (n:Nat):(madeCells z (n*z.size)).toList=(List.replicate n z.toList).flatten:=by
 by_cases p:z.size=0
 ·have b:z= #[]:=Array.eq_empty_of_size_eq_zero p
  subst b
  have:(List.replicate n ([]:List Value)).flatten=[]:=by rw[List.flatten_eq_nil_iff];intro l d;exact List.eq_of_mem_replicate d
  simp[madeCells,this,Array.range_zero']
 ·have v:∀x∈List.replicate n z.toList,x.length=z.size:=λx c=>by rw[List.eq_of_mem_replicate c];simp
  have d:(List.replicate n z.toList).flatten.length=n*z.size:=by
   have:∀m,(List.replicate m z.toList).flatten.length=m*z.size:=λm=>by
    induction m with
    | zero=>simp
    | succ m q=>rw[List.replicate_succ,List.flatten_cons,List.length_append,q,Nat.succ_mul];simp;omega
   exact this n
  apply List.ext_getElem?
  intro j
  by_cases f:j<n*z.size
  ·have g:j % z.size<z.size:=Nat.mod_lt _ (by omega)
   have h:j / z.size<n:=by rw[Nat.div_lt_iff_lt_mul (by omega)];exact f
   have o:(List.replicate n z.toList)[j / z.size]? =some z.toList:=by rw[List.getElem?_replicate,if_pos h]
   have u:z.toList[j % z.size]? =some z[j % z.size]:=by simp[g]
   have key:∀ {xs:List (List Value)},(∀x∈xs,x.length=z.size)->∀ {i k:Nat} {r:List Value} {a:Value},xs[i]? =some r->r[k]? =some a->xs.flatten[i*z.size+k]? =some a:=λc _ _ _ _ s t=>wh c s t
   have e:=key v o u
   rw[show j / z.size*z.size+j % z.size=j by rw[Nat.mul_comm];exact Nat.div_add_mod j z.size] at e
   rw[e]
   simp[madeCells,f,g]
  ·rw[List.getElem?_eq_none (by simp[madeCells];omega),List.getElem?_eq_none (by rw[d];omega)]
theorem Y0 (T:HOk B w g h) (hB:B<=w.heap.size) {t e:TypeId} {k1 k2:IntKind} {n:Int} {z:List Value}
  (j:(zi P t).kind= .slice e) (N:0<=n) (s:n*((zi P e).bytes+1)<=140737488355328) (Q:(zi P e).ok=true) (h0:0<(zi P e).sz) (r:(zi P e).zero=some z) (u:z.length=(zi P e).sz):
  ∃v w',(Instr.makeSlice t (.int k1 n) (.int k2 n)).run P w= .ok v w'/\Made B w g h w' v (.row e (zi P e).sz (List.replicate n.toNat (z.map .v)) 0) (λi=> .tl i 0):=by
 obtain ⟨d,it,I,K,eq⟩:=qd (qh j (by simp))
 rw[eq] at j
 cases d<;>try (cases j;done)
 injection j with j
 subst j
 rename_i e
 obtain ⟨S,i,R,J,f⟩:=qd Q
 have E:(zi P e).sz=i.size:=by rw[f]
 have C:(zi P e).bytes=i.bytes:=by rw[f]
 rw[E] at h0 u⊢
 rw[C] at s
 cases c:i.zero with
 | none=>rw[f] at r;simp[c] at r
 | some o=>
   have q:o.cells.toList=z:=by rw[f] at r;simpa [c] using r
   obtain ⟨m,rfl⟩:=Int.eq_ofNat_of_zero_le N
   have A:m*(i.bytes+1)<=140737488355328:=by
    have:((m*(i.bytes+1):Nat):Int)<=140737488355328:=by simpa using s
    omega
   rw[Nat.mul_add,Nat.mul_one,Nat.mul_comm] at A
   have l:o.cells.size=i.size:=by rw[<-u, <-q];simp
   obtain ⟨w',G,O,p⟩:=run_make_full (P:=P) w B t e i o i.size I J c rfl k1 k2 m (by omega) (by simp only[maxLen];omega) hB
   obtain ⟨H,F,M,_⟩:=run_make_full (P:=P) w w.heap.size t e i o i.size I J c rfl k1 k2 m (by omega) (by simp only[maxLen];omega) (Nat.le_refl _)
   have y:H=w':=by rw[G] at F;injection F with _ h;exact h.symm
   subst y
   refine ⟨_,H,G,?_⟩
   have a:(madeCells o.cells (m*i.size)).toList=(List.replicate m z).flatten:=by rw[<-l,Zx,q]
   have D:(List.replicate m (z.map AV.v)).flatten=(List.replicate m z).flatten.map AV.v:=by
    induction m with
    | zero=>simp
    | succ m U=>simp[List.replicate_succ]
   simp only[Int.toNat_natCast,Int.ofNat_eq_natCast]
   refine .row e i.size _ (madeCells o.cells (m*i.size)).toList h0 (λx L=>by rw[List.eq_of_mem_replicate L];simp[u]) ⟨p.os,p.tape,p.output,p.size,λk j=>p.block k j (by simp)⟩ (by simpa using O) ?_ (λb s=>(World.ownsRow.lt M b s).1)
   rw[D,a]
   exact Qa _
theorem J6 (p:HOk B w g h) (hB:B<=w.heap.size) (q:kW (ctx w g h) T a) {op:Op} {o:Ob} {mk:Nat->AV} (b:qo P T op=some (o,mk)) (dst:Option Tmp) (type:TypeId) (pos:String) (after:Array Edge) (guard:Option (Nat × Bool)):
  ∃v w',(execOp a.eval ⟨dst,op,type,pos,after,guard⟩).run P w= .ok (.value v) w'/\Made B w g h w' v o mk:=by
 unfold qo at b
 split at b
 ·rename_i t
  split at b
  ·rename_i F
   cases i:(zi P t).zero with
   | none=>rw[i] at b;cases b
   | some z=>
     rw[i] at b
     injection b with b;injection b with hx1 hx2;subst hx1 hx2
     obtain ⟨v,w',f,j⟩:=q8a (P:=P) p F i
     exact ⟨v,w',by simp[execOp,f],j⟩
  ·cases b
 ·rename_i t y
  cases d:(ev T y).cells with
  | none=>rw[d] at b;cases b
  | some G=>
    rw[d] at b
    injection b with b;injection b with hx1 hx2;subst hx1 hx2
    obtain ⟨v,w',f,j⟩:=vXa (P:=P) (t:=t) p (qy q y) d
    exact ⟨v,w',by simp[execOp,f],j⟩
 ·rename_i t n H
  split at b
  ·rename_i e r
   split at b
   ·rename_i k
    cases d:kN (vC (zi P e).sz) (Wj (n*(zi P e).sz)) (evs T H.toList) with
    | none=>rw[d] at b;cases b
    | some G=>
      rw[d] at b
      injection b with b;injection b with hx1 hx2;subst hx1 hx2
      obtain ⟨v,w',f,j⟩:=YZ p hB q r k.1 k.2.1 k.2.2.1 k.2.2.2 d
      exact ⟨v,w',by simp[execOp,f],j⟩
   ·cases b
  ·cases b
 ·rename_i t l c
  split at b
  ·rename_i e k1 n k2 m r E d
   split at b
   ·rename_i k
    obtain ⟨x,A,s,u,f5,f6⟩:=k
    subst x
    cases i:(zi P e).zero with
    | none=>rw[i] at b;cases b
    | some z=>
      rw[i] at b f6
      injection b with b;injection b with hx1 hx2;subst hx1 hx2
      have f:=vE q E
      have j:=vE q d
      obtain ⟨v,w',C,D⟩:=Y0 (P:=P) (k1:=k1) (k2:=k2) p hB r A s u f5 i (by simpa using f6)
      exact ⟨v,w',by simp[execOp,f,j,C],D⟩
   ·cases b
  ·cases b
 ·rename_i t
  split at b
  ·injection b with b;injection b with hx1 hx2;subst hx1 hx2
   exact ⟨.map (some w.heap.size),w.alloc (.map #[] 0),by simp[execOp,Instr.makeMap,newObj];rfl,.map rfl rfl⟩
  ·cases b
 ·cases b
end
section
variable {B:Nat} {w:World} {g:Gh} {h h':List Ob} {P:Program} {x:AV}
theorem qta (j:HOk B w g h) {a:AV} {e i k:Nat} {u:Value} (l:AR (ctx w g h) (.ep a e i k) u) {xs:List (List AV)} (p:eOf h a=some e) (f:zo h a=some xs):
  ∃A b,AR (ctx w g h) a (.slice (some A) xs.length b)/\RowsAt w (ctx w g h) e xs (some A)/\i<xs.length/\u= .pointer (some (A.add (i*e+k))):=by
 obtain ⟨A,m,b,c,o,d⟩:=l
 obtain ⟨s,k',n,r,q,_⟩:=xz j _ c f
 injection n with e4 e5 e6
 subst e5 e6
 have:=q e p
 rw[<-e4] at this
 exact ⟨A,b,c,this,o,d⟩
theorem Wq (f:HOk B w g h) (hB:B<=w.heap.size) {t:TypeId} {p:AV} {u:Value} (y:AR (ctx w g h) p u) (c:yw h (zi P t) p=some x):DidV P (Instr.loadAt t u) B w g h x h:=by
 cases p with
 | ptr id off=>
   simp only[yw] at c
   split at c
   ·rename_i ty K D
    split at c
    ·rename_i F
     obtain ⟨v,q,n⟩:=QI (P:=P) F (J3 f D) c
     obtain ⟨_,e⟩:=y
     subst e
     refine qr f hB (v:=v) ?_ n
     rw[Addr.add_lit,Nat.zero_add] at q
     simpa [Instr.loadAt,Instr.sureAddr,ctx] using q
    ·cases c
   ·cases c
 | ep a e i k=>
   simp only[yw] at c
   split at c
   ·rename_i s
    cases l:zo h a with
    | none=>rw[l] at c;cases c
    | some xs=>
      rw[l] at c
      simp only[Option.bind_some] at c
      cases m:xs[i]? with
      | none=>rw[m] at c;cases c
      | some r=>
        rw[m] at c
        obtain ⟨A,I,_,n,J,E⟩:=qta f y s.2 l
        subst E
        have d:PartAt w (ctx w g h) (A.add (i*e)) r:=λk b G=>by
         obtain ⟨L,u,j,z,H⟩:=n.cell i k r b m G
         injection j with j
         subst j
         exact ⟨u,by rw[Addr.add_add];exact z,H⟩
        obtain ⟨v,o,C⟩:=QI (P:=P) s.1 d c
        refine qr f hB (v:=v) ?_ C
        rw[Addr.add_add] at o
        simpa [Instr.loadAt,Instr.sureAddr] using o
   ·cases c
 | _=>cases c
theorem ZI {rest:List AV}:∀ {r:List AV} {k:Nat} {ns c:List AV},lay r k ns=some c->lay (r++rest) k ns=some (c++rest)
 | r,0,[],c,h=>by
   have e:∀l:List AV,lay l 0 []=some l:=λl=>by cases l<;>rfl
   rw[e] at h;cases h;exact e _
 | [],k+1,_,_,h=>by cases h
 | [],0,_::_,_,h=>by cases h
 | a::r,0,n::ns,c,h=>by
   simp only[lay] at h
   cases b:lay r 0 ns with
   | none=>rw[b] at h;cases h
   | some q=>
     rw[b] at h;injection h with h;subst h
     simp[lay,ZI b]
 | a::r,k+1,ns,c,h=>by
   simp only[lay] at h
   cases b:lay r k ns with
   | none=>rw[b] at h;cases h
   | some q=>
     rw[b] at h;injection h with h;subst h
     simp[lay,ZI b]
theorem Wr {rest b:List AV} {m:Nat} {ns:List AV} (h:lay rest m ns=some b):∀(x:List AV),lay (x++rest) (x.length+m) ns=some (x++b)
 | []=>by simpa using h
 | a::x=>by
   rw[List.length_cons,show x.length+1+m=(x.length+m)+1 by omega]
   simp[lay,Wr h x]
theorem Jg {e:Nat}:∀ {xs:List (List AV)},(∀x∈xs,x.length=e)->∀ {i k:Nat} {r ns b:List AV},xs[i]? =some r->lay r k ns=some b->lay xs.flatten (i*e+k) ns=some (xs.set i b).flatten
 | x::xs,h,0,k,r,ns,b,a,c=>by
   injection a with a
   subst a
   simpa using ZI (rest:=xs.flatten) c
 | x::xs,h,i+1,k,r,ns,b,a,c=>by
   have d:=h x (by simp)
   have:=Wr (Jg (xs:=xs) (λy f=>h y (by simp[f])) (i:=i) a c) x
   rw[d] at this
   rw[show (i+1)*e+k=e+(i*e+k) by rw[Nat.succ_mul];omega]
   simpa using this
theorem qua (u:HOk B w g h) (hB:B<=w.heap.size) {id ty e st:Nat} {xs xs':List (List AV)} (t:h[id]? =some (.row ty e xs st)) {A:Addr} {M F:Nat} (d:g.cur id= .slice (some A) M F) {o:Nat} {vs:List Value} {ns:List AV}
  (p:ARs (ctx w g h) ns vs) (K:∀v∈vs,v.oneCell'=true) (i:lay xs.flatten o ns=some xs'.flatten) (l:∀x∈xs',x.length=e) (a:xs'.length=xs.length):
  ∃w' g',(storeCells (A.add o) vs).run P w= .ok () w'/\Good B w g h w' g' (h.set id (.row ty e xs' st)):=by
 obtain ⟨W,V,cells,y,T⟩:=u.ok id _ t
 obtain ⟨G,s⟩:=Qb T _ p i
 rcases y.2 with ⟨k,_⟩ | ⟨f,cap,cur,k,I,D,C,N,S,J⟩
 ·have c:g.cur id=_:=k
  rw[c] at d;cases d
 ·have c:g.cur id=_:=k
  have q:A=⟨f,0,none⟩:=by
   rw[c] at d
   injection d with d
   injection d with d
   exact d.symm
  subst q
  have L:cells.length=xs.length*e:=y.1
  have R:xs.length*e<=cur.size:=by rw[S];exact Nat.mul_le_mul_right _ C
  have H:o+vs.length<=xs.length*e:=by rw[L] at s;exact s
  have j:=run_storeCells_at P f o ty vs 0 cur w D (by simp only[Nat.add_zero];omega) K
  simp only[Nat.add_zero] at j
  rw[Addr.add_lit,Nat.zero_add]
  refine ⟨_,_,j,Qc (v':=g.cur id) (st':=st) (cells:=cells.take o++vs++cells.drop (o+vs.length)) u hB t l ?_ ?_ G (.inl ⟨rfl,rfl⟩) (λb O=> .inl O)⟩
  ·rw[c]
   exact yE w f _
  ·rw[c]
   refine ⟨?_,.inr ⟨f,cap,_,by rw[a],I,setRow_heap w f cur _ ty _ D,by rw[a];exact C,N,?_,?_⟩⟩
   ·simp only[List.length_append,List.length_take,List.length_drop]
    rw[a]
    omega
   ·simp only[List.size_toArray,List.length_append,List.length_take,List.length_drop,Array.length_toList]
    omega
   ·rw[a, <-J]
    apply List.ext_getElem?
    intro m
    simp only[List.getElem?_take,List.getElem?_append,List.length_take,List.length_append,List.getElem?_drop,Array.length_toList]
    have E:min (xs.length*e) cur.size=xs.length*e:=by omega
    simp only[E]
    have U:min o (xs.length*e)=o:=by omega
    have n:min o cur.size=o:=by omega
    simp only[U,n]
    by_cases r:m<o
    ·simp[r,show m<o+vs.length by omega,show m<xs.length*e by omega]
    ·by_cases z:m<o+vs.length
     ·simp[r,z,show m<xs.length*e by omega]
     ·have Q:o+vs.length+(m - (o+vs.length))=m:=by omega
      simp[z,Q]
theorem jaa (z:HOk B w g h) (hB:B<=w.heap.size) {t:TypeId} {p y:AV} {u v:Value} {ns:List AV} (Q:AR (ctx w g h) p u) (hy:AR (ctx w g h) y v) (ht:(zi P t).ok=true) (U:y.cells=some ns) (N:ns.length=(zi P t).sz)
  (b:vD h ns p=some h'):∃w' g',(Instr.storeAt t u v).run P w= .ok () w'/\Good B w g h w' g' h':=by
 obtain ⟨d,i,hu,R,eq⟩:=qd ht
 obtain ⟨m,n⟩:=J2 U hy
 have f:v.cells.size=i.size:=by
  have:=xy m
  rw[eq] at N
  simp at this N
  omega
 have E:∀(q off:Nat) (ty:TypeId) (cur:Array Value),w.heap[q]? =some (.cells cur ty (0,0))->off+v.cells.toList.length<=cur.size->
   (Instr.storeAt t (.pointer (some ⟨q,off,none⟩)) v).run P w= .ok () (w.setRow q (cur.toList.take off++v.cells.toList++cur.toList.drop (off+v.cells.toList.length)).toArray):=λq off ty cur hg hb=>by
  have:=run_storeCells_at P q off ty v.cells.toList 0 cur w hg (by simpa using hb) n
  simp only[Nat.add_zero] at this
  simp[Instr.storeAt,Instr.sureAddr,storeVar,sizeOf,typeInfo,R,f]
  simpa [f] using this
 cases p with
 | ptr id off=>
   simp only[vD] at b
   split at b
   ·rename_i ty cs l
    cases c:lay cs off ns with
    | none=>rw[c] at b;cases b
    | some Y=>
      rw[c] at b
      injection b with b
      subst b
      obtain ⟨M,vs,S,O⟩:=z.ok id _ l
      obtain ⟨I,T⟩:=Qb O off m c
      obtain ⟨_,e⟩:=Q
      subst e
      exact ⟨_,_,E _ off ty vs S (by simpa using T),xza z hB l (by simpa using I)⟩
   ·cases b
 | ep a e j k=>
   cases a<;>try (cases b;done)
   rename_i id st
   simp only[vD] at b
   split at b
   ·rename_i ty G xs s l
    split at b
    ·rename_i X
     obtain ⟨H,J⟩:=X
     subst H J
     cases F:xs[j]? with
     | none=>rw[F] at b;cases b
     | some r=>
       rw[F] at b
       simp only[Option.bind_some] at b
       cases c:lay r k ns with
       | none=>rw[c] at b;cases b
       | some W=>
         rw[c] at b
         injection b with b
         subst b
         have V:eOf h (.tl id s)=some G:=by simp[eOf,l]
         have Z:zo h (.tl id s)=some xs:=by simp[zo,l]
         obtain ⟨A,cp,M,S,O,I⟩:=qta z Q V Z
         subst I
         have C:=ZE M l
         obtain ⟨q0,L,cells,q2,q3⟩:=z.ok id _ l
         have K:=Jg L F c
         have D:∀x∈xs.set j W,x.length=G:=λx b=>by
          rcases List.mem_or_eq_of_mem_set b with b | b
          ·exact L x b
          ·subst b;rw[JQ c];exact L r (List.mem_of_getElem? F)
         obtain ⟨w',g',z1,z2⟩:=qua (P:=P) z hB l C.symm (o:=j*G+k) m n K D (by simp)
         refine ⟨w',g',?_,z2⟩
         simp[Instr.storeAt,Instr.sureAddr,storeVar,sizeOf,typeInfo,R,f]
         simpa [f] using z1
    ·cases b
   ·cases b
 | _=>cases b
end
section
variable {B:Nat} {w:World} {g:Gh} {h h':List Ob} {P:Program} {x:AV} {T:Nat->AV} {a:Act}
theorem yy {t ty e:TypeId} {i:TypeInfo} (a:P.underlying t=some (.slice e)) (b:P.info? e=some i) (base:Option Addr) (n cap k:Nat) (c:n<=cap):
  (Builtin.append_ #[t,t] ty #[.slice base n cap,.slice none 0 k]).run P w= .ok (.slice base n cap) w:=by
 cases base<;>simp[Builtin.append_,run_underlying a,sizeOf,typeInfo,b,Builtin.lenOf,c,Builtin.firstCells,storeCells]
theorem KI {c:Ctx} {e:Nat} {xs:List (List AV)} {A:Addr} (f:RowsAt w c e xs (some A)) (t:∀r∈xs,r.all AV.one=true):
  ∃news:List Value,news.length=xs.length*e/\(∀j u,news[j]? =some u->w.cell? (A.add j)=some u)/\(∀u∈news,u.oneCell'=true)/\ARs c xs.flatten news:=by
 have y:PartAt w c A xs.flatten:=λk a i=>by
  by_cases v:e=0
  ·have:xs.flatten=[]:=by
    apply List.eq_nil_of_length_eq_zero
    rw[j9 f.len,v,Nat.mul_zero]
   rw[this] at i;cases i
  ·have g:=(List.getElem?_eq_some_iff.1 i).1
   rw[j9 f.len] at g
   have s:k / e<xs.length:=by rw[Nat.div_lt_iff_lt_mul (by omega)];exact g
   have D:k % e<e:=Nat.mod_lt _ (by omega)
   have d:xs[k / e]? =some xs[k / e]:=List.getElem?_eq_getElem s
   have z:xs[k / e].length=e:=f.len _ (List.getElem_mem s)
   have b:xs[k / e][k % e]? =some xs[k / e][k % e]:=List.getElem?_eq_getElem (by omega)
   have l:=wh f.len d b
   have h:k / e*e+k % e=k:=by rw[Nat.mul_comm];exact Nat.div_add_mod k e
   rw[h,i] at l
   injection l with l
   obtain ⟨E,u,n,q,B⟩:=f.cell _ _ _ _ d b
   injection n with n
   subst n
   rw[h] at q
   exact ⟨u,q,by rw[l];exact B⟩
 obtain ⟨vs,p,x⟩:=y.vals
 refine ⟨vs,by rw[<-xy p,j9 f.len],x,?_,p⟩
 refine QH ?_ p
 rw[List.all_eq_true]
 intro a C
 obtain ⟨r,m,o⟩:=List.mem_flatten.1 C
 exact List.all_eq_true.1 (t r m) a o
theorem VF {a:Nat} {e:TypeId} {size:Nat} {v:Value} {k:Nat} {xs:List Value} (h:w.ownsRow B e size v k xs) (b:a<=B):w.ownsRow a e size v k xs:=by
 refine ⟨h.1,?_⟩
 rcases h.2 with c | ⟨g,cap,cur,d,f,r⟩
 ·exact .inl c
 ·exact .inr ⟨g,cap,cur,d,Nat.le_trans b f,r⟩
theorem Y4 {t ty e:TypeId} {i:TypeInfo} {z:Value} (s:P.underlying t=some (.slice e)) (x:P.info? e=some i) (C:i.zero=some z) (E:0<i.size)
  {D:Nat} {v:Value} {n:Nat} {xs:List Value} (f:w.ownsRow D e i.size v n xs) {l:Addr} {m c:Nat} {news:List Value} (q:news.length=m*i.size) (a:∀j u,news[j]? =some u->w.cell? (l.add j)=some u) (H:∀u∈news,u.oneCell'=true)
  (y:n+m<=maxLen) (d:(n+m)*i.bytes<=140737488355328) {v':Value} {w':World} (k:(Builtin.append_ #[t,t] ty #[v,.slice (some l) m c]).run P w= .ok v' w') (b:Nat) (r:v'.ownBlock=some b):
  v.ownBlock=some b∨w.heap.size<=b:=by
 have p:n+m<=9223372036854775807:=by simp only[maxLen] at y;omega
 rcases f.2 with ⟨rfl,rfl⟩ | ⟨g,cap,cur,rfl,K,J,I,F,A,B⟩
 ·by_cases G:m=0
  ·subst G
   have:(Builtin.append_ #[t,t] ty #[.slice none 0 0,.slice (some l) 0 c]).run P w= .ok (.slice none 0 0) w:=by
    simp[Builtin.append_,run_underlying s,sizeOf,typeInfo,x,Builtin.lenOf,Builtin.firstCells,loadCells,loadCellsFrom]
   rw[this] at k
   injection k with e1 e2
   subst e1
   simp[Value.ownBlock] at r
  ·rw[run_append_nil (P:=P) w t ty e i z s x C l m c news q a (by omega) (by omega) (by simp only[Nat.zero_add] at d;omega)] at k
   injection k with e1 e2
   subst e1
   simp[Value.ownBlock] at r
   exact .inr (by omega)
 ·by_cases h:n+m<=cap
  ·have o:n*i.size+news.length<=cur.size:=by rw[q,A, <-Nat.add_mul];exact Nat.mul_le_mul_right _ h
   rw[run_append_room (P:=P) w t ty e i s x g n cap cur J l m c news q a H h o] at k
   injection k with e1 e2
   subst e1
   exact .inl r
  ·have holds:∀j u,xs[j]? =some u->w.cell? ((⟨g,0,none⟩:Addr).add j)=some u:=f.cells (g:=g) rfl
   rw[run_append_grow (P:=P) w t ty e i z s x C ⟨g,0,none⟩ n cap xs f.1 holds l m c news q a (by omega) (by omega) (growslice_fits (by omega) d)] at k
   injection k with e1 e2
   subst e1
   simp[Value.ownBlock] at r
   exact .inr (by omega)
theorem Y5 (hh:HOk B w g h) (hB:B<=w.heap.size) {t ty e:TypeId} {s y:AV} {u v:Value} (hs:AR (ctx w g h) s u) (hy:AR (ctx w g h) y v) (L:(zi P t).kind= .slice e) (a:wS P h e s y=some (x,h')):
  DidV P (Builtin.append_ #[t,t] ty #[u,v]) B w g h x h':=by
 obtain ⟨d,it,Z,hit,eq⟩:=qd (qh L (by simp))
 rw[eq] at L
 cases d<;>try (cases L;done)
 injection L with L
 subst L
 rename_i e
 unfold wS at a
 cases o:zo h y with
 | none=>simp[o] at a
 | some ys=>
   simp only[o,Option.bind_some] at a
   split at a
   ·rename_i hc
    obtain ⟨ho,h0,V,M⟩:=hc
    obtain ⟨d',i,hu',hi,K⟩:=qd ho
    have ρ:(zi P e).sz=i.size:=by rw[K]
    have τ:(zi P e).bytes=i.bytes:=by rw[K]
    rw[ρ] at h0 M V a
    rw[τ] at a
    cases F:i.zero with
    | none=>rw[K] at V;simp[F] at V
    | some z=>
      rw[K] at V
      have W:z.cells.size=i.size:=by simpa [F] using V
      have c:∀r∈ys,r.length=i.size/\r.all AV.one=true:=λr o=>by
       have:=List.all_eq_true.1 M r o
       simpa only[Bool.and_eq_true,beq_iff_eq] using this
      obtain ⟨A,k,e1,e2,e3,e4⟩:=xz hh _ hy o
      subst e1
      have q:(∃n,A=some n)->∃n news,A=some n/\news.length=ys.length*i.size/\(∀j u,news[j]? =some u->w.cell? (n.add j)=some u)/\(∀u∈news,u.oneCell'=true)/\ARs (ctx w g h) ys.flatten news:=by
       rintro ⟨n,rfl⟩
       cases f:ys with
       | nil=>exact ⟨n,[],rfl,by simp,by simp,by simp,rfl⟩
       | cons r rs=>
         cases Y:eOf h y with
         | none=>rw[e4 Y] at f;cases f
         | some U=>
           have J:=e3 U Y
           have υ:U=i.size:=by rw[<-J.len r (by rw[f];simp),(c r (by rw[f];simp)).1]
           subst υ
           obtain ⟨news,n1,n2,n3,n4⟩:=KI J λr o=>(c r o).2
           rw[<-f]
           exact ⟨n,news,rfl,n1,n2,n3,n4⟩
      have D:A=none->ys=[]:=λG=>by
       cases f:ys with
       | nil=>rfl
       | cons r rs=>
         cases Y:eOf h y with
         | none=>rw[e4 Y] at f;cases f
         | some U=>
           have J:=e3 U Y
           have hr0:=(c r (by rw[f];simp)).1
           obtain ⟨n,u,q1,_⟩:=J.cell 0 0 r (nth r 0) (by rw[f];rfl) (wg (by omega))
           rw[G] at q1;cases q1
      split at a
      ·rename_i id st
       split at a
       ·rename_i p U xs s E
        split at a
        ·rename_i σ
         obtain ⟨c1,c2,c3,X⟩:=σ
         subst c1 c2 c3
         injection a with a
         injection a with hx1 hx2
         subst hx1 hx2
         have m:=ZE hs E
         obtain ⟨q0,q1,cells,q2,q3⟩:=hh.ok id _ E
         have C:w.ownsRow B p i.size (g.cur id) xs.length cells:=q2
         rw[<-m] at C
         have ι:xs.length+ys.length<=140737488355328:=Nat.le_trans (Nat.le_mul_of_pos_right _ (by omega)) X
         have H:(xs.length+ys.length)*i.bytes<=140737488355328:=Nat.le_trans (Nat.mul_le_mul_left _ (by omega)) X
         have θ:∀x∈xs++ys,x.length=i.size:=λx a=>by
          rcases List.mem_append.1 a with a | a
          ·exact q1 x a
          ·exact (c x a).1
         have fin:∀(v':Value) (w':World) (l:List Value),w'.ownsRow B p i.size v' (xs++ys).length l->ARs (ctx w g h) (xs++ys).flatten l->w.grownBy w' (g.cur id).ownBlock->(∀b,v'.ownBlock=some b->(g.cur id).ownBlock=some b∨w.heap.size<=b)->
           Good B w g h w' ⟨g.β,λj=>if j=id then v' else g.cur j⟩ (h.set id (.row p i.size (xs++ys) (s+1)))/\AR (ctx w' ⟨g.β,λj=>if j=id then v' else g.cur j⟩ (h.set id (.row p i.size (xs++ys) (s+1)))) (.tl id (s+1)) v':=λv' w' l R S I r4=>by
          refine ⟨Qc hh hB E θ I R S (.inr (by omega)) r4,?_,⟨_,List.getElem?_set_self (j8 E),rfl⟩,λs' φ=>?_⟩
          ·obtain ⟨A,cp,e1,_⟩:=ko R;exact ⟨A,_,cp,e1⟩
          ·have:s+1=s':=by
            have:=φ
            simp only[ctx,List.getElem?_set_self (j8 E),Ob.tok,Option.some.injEq] at this
            exact this
           exact ⟨by omega,λ_=>by simp[ctx]⟩
         cases G:A with
         | none=>
           have N:=D G
           subst N
           obtain ⟨A0,cp,z1,z2⟩:=ko C
           have o:=yy (P:=P) (w:=w) (ty:=ty) Z hi A0 xs.length cp k z2
           rw[<-z1] at o
           obtain ⟨O,Q⟩:=fin u w cells (by simpa using C) (by simpa using q3) ⟨rfl,rfl,rfl,Nat.le_refl _,λ_ _ _=>rfl⟩ (λb hb=> .inl (by have e:u=g.cur id:=m;rw[<-e];exact hb))
           exact ⟨_,_,_,by simpa using o,O,Q⟩
         | some n=>
           obtain ⟨μ,news,n1,n2,n3,n4,n5⟩:=q ⟨n,G⟩
           rw[G] at n1
           injection n1 with n1
           subst n1
           obtain ⟨v',w',R,S,I,r4⟩:=run_append_own (P:=P) w B t ty p i z i.size i.bytes Z hi F rfl rfl W h0 u xs.length cells C n ys.length k news n2 n3 n4 (by simp only[maxLen];omega) H hB
           have ο:w.grownBy w' (g.cur id).ownBlock:=by have e:u=g.cur id:=m;rw[<-e];exact I
           obtain ⟨O,Q⟩:=fin v' w' (cells++news) (by rw[List.length_append];exact S) (by rw[List.flatten_append];exact kn q3 n5) ο (λb hb=>by
            rcases Y4 (P:=P) (w:=w) Z hi F h0 C n2 n3 n4 (by simp only[maxLen];omega) H R b hb with h9 | h9
            ·have e:u=g.cur id:=m
             exact .inl (by rw[<-e];exact h9)
            ·exact .inr h9)
           exact ⟨_,_,_,R,O,Q⟩
        ·cases a
       ·cases a
      ·split at a
       ·rename_i X
        injection a with a
        injection a with hx1 hx2
        subst hx1 hx2
        have hs:u= .slice none 0 0:=hs
        subst hs
        have ι:ys.length<=140737488355328:=Nat.le_trans (Nat.le_mul_of_pos_right _ (by omega)) X
        have H:ys.length*i.bytes<=140737488355328:=Nat.le_trans (Nat.mul_le_mul_left _ (by omega)) X
        cases G:A with
        | none=>
          have N:=D G
          subst N
          have o:=yy (P:=P) (w:=w) (ty:=ty) Z hi none 0 0 k (Nat.le_refl _)
          obtain ⟨O,Q⟩:=yF hh hB (ty:=e) h0 (xs:=[]) (by simp) 0 (Below.refl _ w) (World.ownsRow_nil w B e i.size) rfl (by simp[Value.ownBlock])
          exact ⟨_,_,_,by simpa using o,O,Q⟩
        | some n=>
          obtain ⟨μ,news,n1,n2,n3,n4,n5⟩:=q ⟨n,G⟩
          rw[G] at n1
          injection n1 with n1
          subst n1
          obtain ⟨v',w',R,S,I,r4⟩:=run_append_own (P:=P) w w.heap.size t ty e i z i.size i.bytes Z hi F rfl rfl W h0 (.slice none 0 0) 0 [] (World.ownsRow_nil w _ e i.size) n ys.length k news n2 n3 n4 (by simp only[maxLen];omega) (by simpa using H) (Nat.le_refl _)
          have T:Below w.heap.size w w':=⟨I.os,I.tape,I.output,I.size,λk L=>I.block k L (by simp[Value.ownBlock])⟩
          obtain ⟨O,Q⟩:=yF hh hB (ty:=e) h0 (λx a=>(c x a).1) 0 T (VF (by simpa using S) hB) n5 (λb hb=>(World.ownsRow.lt S b hb).1)
          exact ⟨_,_,_,R,O,Q⟩
       ·cases a
      ·cases a
   ·cases a
end
end Go.Proofs.YtigdlmpjijhpaaaGreat.Ax
