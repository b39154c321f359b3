/-
  Joined.
-/
import Derived.Test.YtfmldcilgbbimaaGreatK00
import Derived.Laws.CopyRow
import Derived.Great.BuildSlice
import Derived.Laws.OwnMore
set_option linter.unusedSimpArgs false
set_option linter.unusedVariables false
namespace Go.Proofs.YtfmldcilgbbimaaGreat.Ax
open Go Go.RowKit
def z7a:Nat->List AV
 | 0=>[]
 | n+1=> .bad::z7a n
def ZD (e:Nat):Nat->List AV->List (List AV)
 | 0,_=>[]
 | n+1,l=>l.take e::ZD e n (l.drop e)
def vN (place:Nat->Option (Nat × Nat)) (aZ:List AV):List (Nat × AV)->Option (List AV)
 | []=>some aZ
 | (i,a)::r=>match place i,a.cells with
   | some (off,size),some cs=>if cs.length=size then (lay aZ off cs).bind λb=>vN place b r else none
   | _,_=>none
def Jh (P:Program) (a:List (Nat × TypeId)) (i:Nat):Option (Nat × Nat):=a[i]?.map λf=>(f.1,(zl P f.2).sz)
def wB (sz:Nat) (i:Nat):Option (Nat × Nat):=some (i*sz,sz)
def evs (T:Nat->AV):List (Nat × Operand)->List (Nat × AV)
 | []=>[]
 | (i,x)::r=>(i,ev T x)::evs T r
def evl (T:Nat->AV):List Operand->List AV
 | []=>[]
 | x::r=>ev T x::evl T r
def jO:List AV->List AV->Option Bool
 | [],[]=>some true
 | .v (.int k a)::r,.v (.int k' b)::s=>if k=k' then (jO r s).map λt=>a==b && t else none
 | _,_=>none
def vl (P:Program):Nat->List (Nat × TypeId)->Bool
 | _,[]=>true
 | o,f::r=>f.1==o && (match (zl P f.2).kind with | .int _=>true | _=>false) && vl P (o+1) r
def QGa (P:Program) (e:TypeId):Bool:=(match (zl P e).kind with | .int _=>true | _=>false) && (zl P e).sz==1
def jz (P:Program) (t:TypeId):Bool:= !P.eqGuardType P.depth t && !P.stoodInHeld t && (P.fieldsOf t).toList.all λf=>f.name != "_"
def kFa:BinOp->Bool
 | .shl | .shr=>true
 | _=>false
def j2a (op:BinOp) (k:IntKind) (a b:Int):Option AV:=match op with
 | .shr=>some (.v (.int k (a.fdiv (2 ^ min b.toNat k.bits))))
 | .shl=>some (.v (.int k (k.wrap (a*2 ^ min b.toNat k.bits))))
 | _=>none
def j3a (op:BinOp) (k:IntKind) (a b:Int):Option AV:=match op with
 | .add=>some (.v (.int k (k.wrap (a+b))))
 | .sub=>some (.v (.int k (k.wrap (a - b))))
 | .mul=>some (.v (.int k (k.wrap (a*b))))
 | .quo=>if b=0 then none else some (.v (.int k (k.wrap (a.tdiv b))))
 | .rem=>if b=0 then none else some (.v (.int k (a.tmod b)))
 | .eql=>some (.v (.bool (a==b)))
 | .neq=>some (.v (.bool (a != b)))
 | .lss=>some (.v (.bool (decide (a<b))))
 | .leq=>some (.v (.bool (decide (a<=b))))
 | .gtr=>some (.v (.bool (decide (a>b))))
 | .geq=>some (.v (.bool (decide (a≥b))))
 | _=>none
def yda (P:Program) (op:BinOp) (t:TypeId):AV->AV->Option AV
 | .v (.int k a),.v (.int k' b)=>if kFa op then (if 0<=b then j2a op k a b else none) else if k=k' then j3a op k a b else none
 | .v (.bool a),.v (.bool b)=>match (zl P t).kind,op with
   | .bool,.eql=>some (.v (.bool (a==b)))
   | .bool,.neq=>some (.v (.bool (!(a==b))))
   | _,_=>none
 | .ag xs,.ag ys=>match (zl P t).kind,op with
   | .struct c,.eql=>if jz P t && vl P 0 c && xs.length==c.length then (jO xs ys).map λb=> .v (.bool b) else none
   | .struct c,.neq=>if jz P t && vl P 0 c && xs.length==c.length then (jO xs ys).map λb=> .v (.bool (!b)) else none
   | .arr n e,.eql=>if jz P t && QGa P e && xs.length==n then (jO xs ys).map λb=> .v (.bool b) else none
   | _,_=>none
 | .v (.pointer none),.v (.pointer none)=>match (zl P t).kind,op with
   | .ptr _,.eql=>some (.v (.bool true))
   | .ptr _,.neq=>some (.v (.bool false))
   | _,_=>none
 | .ptr _ _,.v (.pointer none)=>match (zl P t).kind,op with
   | .ptr _,.eql=>some (.v (.bool false))
   | .ptr _,.neq=>some (.v (.bool true))
   | _,_=>none
 | .v (.string a),.v (.string b)=>match op with
   | .eql=>some (.v (.bool (a.toList==b.toList)))
   | .neq=>some (.v (.bool (!(a.toList==b.toList))))
   | _=>none
 | _,_=>none
def z8a:List (List AV)->Option (List UInt8)
 | []=>some []
 | [.v (.int .u8 n)]::r=>(z8a r).map (UInt8.ofNat n.toNat:: ·)
 | _=>none
def yea (P:Program) (s:TypeId) (rows:List (List AV)):Option AV:=match (zl P s).kind with
 | .slice e=>match (zl P e).kind with
   | .int .u8=>(z8a rows).map λl=> .v (.string ⟨l.toArray⟩)
   | _=>none
 | _=>none
def z9a:AV->List AV->Option AV
 | a,[]=>some a
 | .v (.int k x),.v (.int _ y)::r=>z9a (.v (.int k (if y>x then y else x))) r
 | _,_=>none
def qaa:AV->List AV->Option AV
 | a,[]=>some a
 | .v (.int k x),.v (.int _ y)::r=>qaa (.v (.int k (if y<x then y else x))) r
 | _,_=>none
def ZE (h:List Ob) (τ:Ty):AV->Option AV
 | .ptr id off=>match h[id]? with
   | some (.box _ cs)=>if τ.ok then part cs off τ.agg τ.sz else none
   | _=>none
 | .ep a e i k=>if τ.ok/\eOf h a=some e then (zq h a).bind λxs=>xs[i]?.bind λr=>part r k τ.agg τ.sz else none
 | _=>none
def wC (h:List Ob) (ns:List AV):AV->Option (List Ob)
 | .ptr id off=>match h[id]? with
   | some (.box ty cs)=>(lay cs off ns).map λcs'=>h.set id (.box ty cs')
   | _=>none
 | .ep (.tl id st) e i k=>match h[id]? with
   | some (.row ty b xs s)=>if s=st/\b=e then xs[i]?.bind λr=>(lay r k ns).map λa=>h.set id (.row ty e (xs.set i a) st) else none
   | _=>none
 | _=>none
def j4a (h:List Ob) (n:Int) (a:AV):Option AV:=
 (zq h a).bind λxs=>(eOf h a).bind λe=>if 0<=n/\n<xs.length then some (.ep a e n.toNat 0) else none
def y8 (P:Program) (h:List Ob) (e:TypeId) (s x:AV):Option (AV × List Ob):=
 let τ:=zl P e
 (zq h x).bind λys=>
  if τ.ok/\0<τ.sz/\(τ.zero.map List.length)=some τ.sz/\ys.all (λr=>r.length==τ.sz && r.all AV.one) then
   match s with
   | .tl id st=>match h[id]? with
     | some (.row ty a xs s)=>if s=st/\ty=e/\a=τ.sz/\(xs.length+ys.length)*(τ.bytes+1)<=140737488355328 then some (.tl id (st+1),h.set id (.row ty a (xs++ys) (st+1))) else none
     | _=>none
   | .v (.slice none 0 0)=>if ys.length*(τ.bytes+1)<=140737488355328 then some (.tl h.length 0,h++[.row e τ.sz ys 0]) else none
   | _=>none
  else none
def X7a:AV->Bool
 | .em=>true
 | _=>false
def xA:AV->Bool
 | .v (.slice none _ _)=>true
 | _=>false
def zga:Option (List (List AV))->Option Nat->Bool
 | some (_::_),some e=>decide (0<e)
 | _,_=>false
def Ji (h:List Ob) (a:AV):Bool:=X7a a || zga (zq h a) (eOf h a)
def Ve (op:BinOp) (b:Bool):Option AV:=match op with
 | .eql=>some (.v (.bool b))
 | .neq=>some (.v (.bool (!b)))
 | _=>none
def qba (P:Program) (h:List Ob) (op:BinOp) (t:TypeId) (a:AV):Option AV:=match (zl P t).kind with
 | .slice _=>if xA a then Ve op true else if Ji h a then Ve op false else none
 | _=>none
def QG:Operand->Bool
 | .const (.slice none _ _)=>true
 | _=>false
def xf (h:List Ob):AV->Option (Nat × Nat × Nat × Nat)
 | .tl id st=>match h[id]? with
   | some (.row _ _ xs s)=>if s=st then some (id,st,0,xs.length) else none
   | _=>none
 | .vw (.tl id st) e i n=>match h[id]? with
   | some (.row _ a xs s)=>if s=st/\a=e/\i+n<=xs.length then some (id,st,i,n) else none
   | _=>none
 | _=>none
def jP (xs:List (List AV)) (i:Nat) (ys:List (List AV)):List (List AV):=xs.take i++ys++xs.drop (i+ys.length)
def xJ (h:List Ob) (id i:Nat) (ty e:Nat) (ys:List (List AV)):Option (List Ob):=match h[id]? with
 | some (.row a b xs st)=>if a=ty/\b=e/\ys.all (λr=>r.length==e && r.all AV.one) then some (h.set id (.row a b (jP xs i ys) st)) else none
 | _=>none
def yE (P:Program) (T:Nat->AV) (h:List Ob) (c:Call):Option (AV × List Ob):=
 match c.callee,c.args.toList,c.argTypes.toList with
 | .builtin .len,[x],[t]=>match (zl P t).kind with
   | .slice _=>(zq h (ev T x)).map λxs=>(.v (.int .i64 xs.length),h)
   | _=>none
 | .builtin .append,[s,x],[t,a]=>match (zl P t).kind with
   | .slice e=>if a=t then y8 P h e (ev T s) (ev T x) else none
   | _=>none
 | .builtin .clear,[x],[t]=>match (zl P t).kind with
   | .slice e=>(xf h (ev T x)).bind λ(id,_,i,n)=>(zl P e).zero.bind λz=>
     if (zl P e).ok/\z.length=(zl P e).sz then (xJ h id i e (zl P e).sz (List.replicate n (z.map .v))).map λh'=>(.tup [],h') else none
   | _=>none
 | .builtin .copy,[d,x],[t,a]=>match (zl P t).kind with
   | .slice e=>if a=t/\(zl P e).ok/\0<(zl P e).sz then (xf h (ev T d)).bind λ(id,_,i,n)=>(zq h (ev T x)).bind λys=>
     (xJ h id i e (zl P e).sz (ys.take n)).map λh'=>(.v (.int .i64 ((ys.take n).length:Nat)),h') else none
   | _=>none
 | .builtin .max,x::r,_=>(z9a (ev T x) (evl T r)).map (·,h)
 | .builtin .min,x::r,_=>(qaa (ev T x) (evl T r)).map (·,h)
 | _,_,_=>none
def kGa (τ:Ty):Option AV:=if τ.one then τ.zero.bind λz=>z.head?.map .v else none
def qy (P:Program) (T:Nat->AV):Op->Option (Ob × (Nat->AV))
 | .alloc t=>if (zl P t).ok then (zl P t).zero.map λz=>(.box t (z.map .v),λi=> .ptr i 0) else none
 | .box t x=>(ev T x).cells.map λcs=>(.box t cs,λi=> .ptr i 0)
 | .buildSlice t n a=>match (zl P t).kind with
   | .slice e=>if (zl P e).ok/\0<(zl P e).sz/\n*(zl P e).sz<=16777216/\(zl P e).zero.isSome then
     (vN (wB (zl P e).sz) (z7a (n*(zl P e).sz)) (evs T a.toList)).map λcs=>(.row e (zl P e).sz (ZD (zl P e).sz n cs) 0,λi=> .tl i 0) else none
   | _=>none
 | .makeSlice t l c=>match (zl P t).kind,ev T l,ev T c with
   | .slice e,.v (.int _ n),.v (.int _ m)=>if n=m/\0<=n/\n*((zl P e).bytes+1)<=140737488355328/\(zl P e).ok/\0<(zl P e).sz/\((zl P e).zero.map List.length)=some (zl P e).sz then
     (zl P e).zero.map λz=>(.row e (zl P e).sz (List.replicate n.toNat (z.map .v)) 0,λi=> .tl i 0) else none
   | _,_,_=>none
 | .makeMap t none=>match (zl P t).kind with
   | .mapk _ _=>some (.mapo [],λi=> .mp i)
   | _=>none
 | _=>none
def xh:AV × AV->Int
 | (.v (.int _ m),_)=>m
 | _=>0
def xB (kk:IntKind):List (AV × AV)->Bool
 | []=>true
 | (.v (.int k _),_)::r=>k==kk && xB kk r
 | _=>false
def qS (kk:IntKind) (n:Int) (v:AV):List (AV × AV)->List (AV × AV)
 | []=>[(.v (.int kk n),v)]
 | p::r=>if n<xh p then (.v (.int kk n),v)::p::r else p::qS kk n v r
def jS (n:Int):List (AV × AV)->Bool
 | []=>false
 | p::r=>xh p==n || jS n r
def jh (kk:IntKind) (n:Int) (v:AV):List (AV × AV)->List (AV × AV)
 | []=>[]
 | p::r=>(if xh p=n then (.v (.int kk n),v) else p)::jh kk n v r
def ZL (kk:IntKind) (n:Int) (v:AV) (es:List (AV × AV)):Option (List (AV × AV)):=
 if xB kk es then some (if jS n es then jh kk n v es else qS kk n v es) else none
def ZF (n:Int) (z:AV):List (AV × AV)->AV × Bool
 | []=>(z,false)
 | p::r=>(if xh p=n then p.2 else (ZF n z r).1,xh p==n || (ZF n z r).2)
def qca (kk:IntKind) (n:Int) (z:AV) (es:List (AV × AV)):Option (AV × Bool):=if xB kk es then some (ZF n z es) else none
def yf (T:Nat->AV) (d:Int):Option Operand->Option Int
 | none=>some d
 | some x=>match ev T x with
   | .v (.int _ n)=>some n
   | _=>none
def zt (P:Program) (T:Nat->AV) (h:List Ob):Op->Option (AV × List Ob)
 | .move x=>some (ev T x,h)
 | .assign x=>some (ev T x,h)
 | .pick c a b=>match ev T c with
   | .v (.bool t)=>some (if t then ev T a else ev T b,h)
   | _=>none
 | .alloc t=>(qy P T (.alloc t)).map λq=>(q.2 h.length,h++[q.1])
 | .box t x=>(qy P T (.box t x)).map λq=>(q.2 h.length,h++[q.1])
 | .buildSlice t n j=>(qy P T (.buildSlice t n j)).map λq=>(q.2 h.length,h++[q.1])
 | .makeSlice t l c=>(qy P T (.makeSlice t l c)).map λq=>(q.2 h.length,h++[q.1])
 | .makeMap t r=>(qy P T (.makeMap t r)).map λq=>(q.2 h.length,h++[q.1])
 | .build t j=>match (zl P t).kind with
   | .struct g=>if g.all (λf=>(zl P f.2).ok) then (zl P t).zero.bind λz=>(vN (Jh P g) (z.map .v) (evs T j.toList)).map λcs=>(.ag cs,h) else none
   | .arr _ e=>if (zl P e).ok then (zl P t).zero.bind λz=>(vN (wB (zl P e).sz) (z.map .v) (evs T j.toList)).map λcs=>(.ag cs,h) else none
   | _=>none
 | .load t a=>(ZE h (zl P t) (ev T a)).map (·,h)
 | .store t a x=>if (zl P t).ok then (ev T x).cells.bind λns=>if ns.length=(zl P t).sz then (wC h ns (ev T a)).map λh'=>(.v undef,h') else none else none
 | .nilCheck x=>match ev T x with
   | .ptr id off=>some (.ptr id off,h)
   | .ep a e i k=>some (.ep a e i k,h)
   | .fn (.func f) a b=>some (.fn (.func f) a b,h)
   | _=>none
 | .binOp op t x y _=>(if QG y then qba P h op t (ev T x) else yda P op t (ev T x) (ev T y)).map (·,h)
 | .unOp op _ x=>match op,ev T x with
   | .neg,.v (.int k n)=>some (.v (.int k (k.wrap (0 - n))),h)
   | .not,.v (.bool b)=>some (.v (.bool (!b)),h)
   | _,_=>none
 | .convert s d x=>match (zl P s).ok,(zl P d).kind,ev T x with
   | true,.int k,.v (.int _ n)=>some (.v (.int k (k.wrap n)),h)
   | true,.str,.sl 1 rows=>(yea P s rows).map (·,h)
   | _,_,_=>none
 | .makeFunc f a b=>some (.fn f (evl T a.toList) (evl T b.toList),h)
 | .fieldAddr t x i=>match (zl P t).kind with
   | .struct g=>g[i]?.bind λf=>if (zl P f.2).ok/\0<(zl P f.2).sz then (match ev T x with
     | .ptr id off=>some (.ptr id (off+f.1),h)
     | .ep a e i k=>some (.ep a e i (k+f.1),h)
     | _=>none) else none
   | _=>none
 | .field t x i=>match (zl P t).kind,ev T x with
   | .struct g,.ag cs=>g[i]?.bind λf=>if (zl P f.2).ok then (part cs f.1 (zl P f.2).agg (zl P f.2).sz).map (·,h) else none
   | _,_=>none
 | .indexAddr t x i=>match (zl P t).kind,ev T i with
   | .slice e,.v (.int _ n)=>if (zl P e).ok/\0<(zl P e).sz/\eOf h (ev T x)=some (zl P e).sz then (j4a h n (ev T x)).map (·,h) else none
   | .arr m e,.v (.int _ n)=>if (zl P e).ok/\0<=n/\n<m then (match ev T x with
     | .ptr id off=>some (.ptr id (off+n.toNat*(zl P e).sz),h)
     | .ep a A i k=>some (.ep a A i (k+n.toNat*(zl P e).sz),h)
     | _=>none) else none
   | _,_=>none
 | .index t x i=>match (zl P t).kind,ev T x,ev T i with
   | .arr m e,.ag cs,.v (.int _ n)=>if (zl P e).ok/\0<=n/\n<m then (part cs (n.toNat*(zl P e).sz) (zl P e).agg (zl P e).sz).map (·,h) else none
   | _,_,_=>none
 | .slice t x lo w none=>match (zl P t).kind with
   | .slice e=>(zq h (ev T x)).bind λxs=>(yf T 0 lo).bind λl=>(yf T xs.length w).bind λm=>
     if (zl P e).ok/\0<=l/\l<=m/\m<=xs.length/\(l=m∨(0<(zl P e).sz/\eOf h (ev T x)=some (zl P e).sz)) then some (.vw (ev T x) (zl P e).sz l.toNat (m.toNat - l.toNat),h) else none
   | _=>none
 | .insert t m k v=>match (zl P t).kind,ev T m,ev T k with
   | .mapk o _,.mp id,.v (.int kk n)=>match (zl P o).kind,h[id]? with
     | .int kk',some (.mapo es)=>if kk'=kk then (ZL kk n (ev T v) es).map λes'=>(.v undef,h.set id (.mapo es')) else none
     | _,_=>none
   | _,_,_=>none
 | .lookup t m k ok=>match (zl P t).kind,ev T m,ev T k with
   | .mapk o u,.mp id,.v (.int kk n)=>match (zl P o).kind,h[id]?,kGa (zl P u) with
     | .int kk',some (.mapo es),some z=>if kk'=kk then (qca kk n z es).map λp=>(if ok then .tup [p.1,.v (.bool p.2)] else p.1,h) else none
     | _,_,_=>none
   | _,_,_=>none
 | .extract x i=>match ev T x with
   | .tup cs=>if i<cs.length then some (nth cs i,h) else none
   | _=>none
 | .call c=>yE P T h c
 | _=>none
section
variable {c:Ctx}
theorem qda:∀(vs:List Value),ARs c (z7a vs.length) vs
 | []=>rfl
 | v::r=>⟨v,r,rfl,trivial,qda r⟩
theorem qea (off:Nat):∀(us:List Value) (k:Nat) (cells:Array Value),off+k+us.length<=cells.size->
  ((us.zipIdx k).foldl (λcs (p:Value × Nat)=>cs.setIfInBounds (off+p.2) p.1) cells).toList=cells.toList.take (off+k)++us++cells.toList.drop (off+k+us.length)
 | [],k,cells,_=>by simp
 | u::us,k,cells,h=>by
   have h:off+k+(us.length+1)<=cells.size:=by simpa using h
   rw[List.zipIdx_cons,List.foldl_cons,qea off us (k+1) _ (by simp;omega)]
   apply List.ext_getElem?
   intro j
   simp only[Array.toList_setIfInBounds,List.getElem?_append,List.length_take,List.length_set,Array.length_toList,List.length_append,List.length_cons]
   by_cases a:j<off+k
   ·simp[a,show j<off+(k+1) by omega,show min (off+(k+1)) cells.size=off+(k+1) by omega,show min (off+k) cells.size=off+k by omega,show j<off+(k+1)+us.length by omega,show j<off+k+(us.length+1) by omega,show off+k≠j by omega]
   ·by_cases c:j=off+k
    ·subst c
     simp[show min (off+(k+1)) cells.size=off+(k+1) by omega,show min (off+k) cells.size=off+k by omega,show off+k<off+(k+1) by omega,show off+k<off+(k+1)+us.length by omega,show off+k<cells.size by omega]
    ·by_cases b:j<off+k+(us.length+1)
     ·simp[a,b,show ¬ j<off+(k+1) by omega,show min (off+(k+1)) cells.size=off+(k+1) by omega,show min (off+k) cells.size=off+k by omega,show j<off+(k+1)+us.length by omega,show j - (off+k)=(j - (off+(k+1)))+1 by omega]
     ·simp[a,b,show ¬ j<off+(k+1)+us.length by omega,show min (off+(k+1)) cells.size=off+(k+1) by omega,show min (off+k) cells.size=off+k by omega]
      rw[List.getElem?_set_ne (by omega)]
      rw[show off+(k+1)+us.length+(j - (off+(k+1)+us.length))=j by omega,show off+k+(us.length+1)+(j - (off+k+(us.length+1)))=j by omega]
      simp
def X8a (c:Ctx):List (Nat × AV)->List (Nat × Value)->Prop
 | [],b=>b=[]
 | (i,a)::r,b=>∃v q,b=(i,v)::q/\AR c a v/\X8a c r q
theorem JV (place:Nat->Option (Nat × Nat)):∀(p:List (Nat × AV)) (d:List (Nat × Value)) (aZ rs:List AV) (cells:Array Value),X8a c p d->ARs c aZ cells.toList->vN place aZ p=some rs->
  ∃b,Instr.fill place cells d=some b/\ARs c rs b.toList
 | [],d,aZ,rs,cells,j,k,h=>by
   have j:d=[]:=j
   subst j
   injection h with h
   subst h
   exact ⟨cells,rfl,k⟩
 | (i,a)::r,d,aZ,rs,cells,⟨v,q,B,A,D⟩,k,h=>by
   subst B
   simp only[vN] at h
   split at h
   ·rename_i off size cs l n
    split at h
    ·rename_i s
     cases g:lay aZ off cs with
     | none=>rw[g] at h;cases h
     | some e=>
       rw[g] at h
       obtain ⟨o,E⟩:=Vb n A
       have m:v.cells.size=size:=by
        have:=kC o
        simp at this
        omega
       obtain ⟨u,C⟩:=JU k off o g
       have y:off+v.cells.size<=cells.size:=by simpa using C
       have t:=qea off v.cells.toList 0 cells (by simpa using y)
       have f:(v.cells.zipIdx.foldl (λcs (x:Value × Nat)=>cs.setIfInBounds (off+x.2) x.1) cells).toList=cells.toList.take off++v.cells.toList++cells.toList.drop (off+v.cells.toList.length):=by
        rw[<-Array.foldl_toList,Array.toList_zipIdx]
        simpa using t
       obtain ⟨b,z,w⟩:=JV place r q e rs (v.cells.zipIdx.foldl (λcs (x:Value × Nat)=>cs.setIfInBounds (off+x.2) x.1) cells) D (by rw[f];exact u) h
       refine ⟨b,?_,w⟩
       simp only[Instr.fill,l,m]
       rw[if_neg (by simp;omega)]
       exact z
    ·cases h
   ·cases h
theorem Q8 (e:Nat):∀(n:Nat) (l:List AV),l.length=n*e->(ZD e n l).flatten=l/\(∀x∈ZD e n l,x.length=e)/\(ZD e n l).length=n
 | 0,l,h=>by
   have:l=[]:=List.eq_nil_of_length_eq_zero (by simpa using h)
   subst this
   simp[ZD]
 | n+1,l,h=>by
   rw[Nat.succ_mul] at h
   obtain ⟨b,c,d⟩:=Q8 e n (l.drop e) (by simp;omega)
   refine ⟨by simp[ZD,b],λx a=>?_,by simp[ZD,d]⟩
   simp only[ZD,List.mem_cons] at a
   rcases a with rfl | a
   ·simp;omega
   ·exact c x a
end
section
variable {B:Nat} {w:World} {g:Gh} {h h':List Ob} {P:Program} {T:Nat->AV} {a:Act} {x:AV}
def Did (P:Program) (s:Sem Next) (B:Nat) (w:World) (g:Gh) (h:List Ob) (x:AV) (h':List Ob):Prop:=
 ∃a v w' g',s.run P w= .ok a w'/\(a= .value v∨(a= .skip/\v=undef))/\Good B w g h w' g' h'/\AR (ctx w' g' h') x v
def DidV (P:Program) (s:Sem Value) (B:Nat) (w:World) (g:Gh) (h:List Ob) (x:AV) (h':List Ob):Prop:=
 ∃v w' g',s.run P w= .ok v w'/\Good B w g h w' g' h'/\AR (ctx w' g' h') x v
theorem DidV.did {s:Sem Value} (d:DidV P s B w g h x h'):Did P (do pure (.value (<-s))) B w g h x h':=by
 obtain ⟨v,w',g',a,b,c⟩:=d
 exact ⟨.value v,v,w',g',by simp[a],.inl rfl,b,c⟩
theorem qC {s:Sem Value} {v:Value} (a:HOk B w g h) (hB:B<=w.heap.size) (c:s.run P w= .ok v w) (b:AR (ctx w g h) x v):DidV P s B w g h x h:=
 ⟨v,w,g,c,Good.refl a hB,b⟩
def kU (c:Ctx) (T:Nat->AV) (a:Act):Prop:=∀i,AR c (T i) (a.tmps.getD i undef)
theorem qJ {c:Ctx} (b:kU c T a):∀(x:Operand),AR c (ev T x) (a.eval x)
 | .tmp i=>b i
 | .const x=>Va x
 | .func f=>⟨#[], #[],rfl,rfl,rfl⟩
 | .global _=>trivial
theorem wt {c:Ctx} (b:kU c T a) {x:Operand} {u:Value} (e:ev T x= .v u):a.eval x=u:=by
 have:=qJ b x;rw[e] at this;exact this
theorem Jj {c:Ctx} (b:kU c T a):∀(l:List Operand),ARs c (evl T l) (l.map a.eval)
 | []=>rfl
 | x::r=>⟨_,_,rfl,qJ b x,Jj b r⟩
theorem KY {c:Ctx} (b:kU c T a):∀(l:List (Nat × Operand)),X8a c (evs T l) (l.map λ(i,x)=>(i,a.eval x))
 | []=>rfl
 | (i,x)::r=>⟨_,_,rfl,qJ b x,KY b r⟩
theorem zha {t:TypeId} {z:List Value} (h:(zl P t).zero=some z):(zl P t).ok=true:=by
 unfold zl at h⊢
 split at h
 ·rfl
 ·cases h
theorem qv {t:TypeId} {k:K} (h:(zl P t).kind=k) (a:k≠ .other):(zl P t).ok=true:=by
 unfold zl at h⊢
 split at h
 ·rfl
 ·exact absurd h.symm a
theorem Vf {t:TypeId} {i:TypeInfo} {z:Value} (b:P.info? t=some i) (a:i.zero=some z):(zeroValue t).run P w= .ok z w:=by simp[zeroValue,typeInfo,b,a]
inductive Made (B:Nat) (w:World) (g:Gh) (h:List Ob) (w':World) (v:Value):Ob->(Nat->AV)->Prop where
 | box (ty:TypeId) (cs:List AV) (vs:Array Value) (hw:w'=w.alloc (.cells vs ty)) (hv:v= .pointer (some ⟨w.heap.size,0,none⟩)) (hn:ARs (ctx w g h) cs vs.toList):Made B w g h w' v (.box ty cs) λi=> .ptr i 0
 | row (ty e:Nat) (xs:List (List AV)) (cells:List Value) (he:0<e) (hx:∀x∈xs,x.length=e) (hb:Below w.heap.size w w') (hown:w'.ownsRow B ty e v xs.length cells) (hn:ARs (ctx w g h) xs.flatten cells)
   (hbl:∀b,v.ownBlock=some b->w.heap.size<=b):Made B w g h w' v (.row ty e xs 0) λi=> .tl i 0
 | map (hw:w'=w.alloc (.map #[] 0)) (hv:v= .map (some w.heap.size)):Made B w g h w' v (.mapo []) λi=> .mp i
theorem Made.more {w':World} {v:Value} {o:Ob} {mk:Nat->AV} (m:Made B w g h w' v o mk) (d:HOk B w g h) (hB:B<=w.heap.size):∃g',Good B w g h w' g' (h++[o])/\AR (ctx w' g' (h++[o])) (mk h.length) v:=by
 cases m with
 | box ty cs vs f c b=>subst f c;exact ⟨_,yba d hB b⟩
 | row ty e xs cells j k l a b i=>exact ⟨_,ZW d hB j k 0 l a b i⟩
 | map f c=>subst f c;exact ⟨_,yca d hB⟩
theorem Made.at {w':World} {v:Value} {o:Ob} {mk:Nat->AV} (m:Made B w g h w' v o mk) (f:HOk B w g h) (hB:B<=w.heap.size) {i:Nat} (b:h[i]? =some .res):∃g',Good B w g h w' g' (h.set i o)/\AR (ctx w' g' (h.set i o)) (mk i) v:=by
 cases m with
 | box ty cs vs j d c=>subst j d;exact ⟨_,X4a f hB b c⟩
 | row ty e xs cells l n p a c k=>exact ⟨_,X5a f hB b l n 0 p a c k⟩
 | map j d=>subst j d;exact ⟨_,X6a f hB b⟩
theorem Made.live {w':World} {v:Value} {o:Ob} {mk:Nat->AV} (m:Made B w g h w' v o mk):o.isRes=false:=by cases m<;>rfl
theorem vva (k:HOk B w g h) {t:TypeId} {z:List Value} (f:(zl P t).ok=true) (a:(zl P t).zero=some z):
  ∃v w',(Instr.alloc t true (.tuple #[])).run P w= .ok v w'/\Made B w g h w' v (.box t (z.map .v)) (λi=> .ptr i 0):=by
 obtain ⟨d,i,l,c,e⟩:=qr f
 rw[e] at a
 cases b:i.zero with
 | none=>rw[b] at a;cases a
 | some j=>
   rw[b] at a
   injection a with a
   subst a
   exact ⟨_,_,by simp[Instr.alloc,Vf c b,newVar,newRow],.box t _ j.cells rfl rfl (ZT _)⟩
theorem QHa (c:HOk B w g h) {t:TypeId} {y:AV} {v:Value} {cs:List AV} (b:AR (ctx w g h) y v) (a:y.cells=some cs):
  ∃u w',(Instr.box t v).run P w= .ok u w'/\Made B w g h w' u (.box t cs) (λi=> .ptr i 0):=
 ⟨_,_,by simp[Instr.box,newVar,newRow],.box t _ v.cells rfl rfl (Vb a b).1⟩
theorem Yd:∀(a:List Field),(a.all λf=>(zl P f.type).ok)=true->a.mapM (λf=>(P.info? f.type).map λi=>(f.offset,i.size))=some (a.map λf=>(f.offset,(zl P f.type).sz))
 | [],_=>rfl
 | f::a,h=>by
   rw[List.all_cons,Bool.and_eq_true] at h
   obtain ⟨d,i,c,b,e⟩:=qr h.1
   simp[List.mapM_cons,b,Yd a h.2,e]
theorem vwa (C:HOk B w g h) (hB:B<=w.heap.size) (G:kU (ctx w g h) T a) {t:TypeId} {p:Array (Nat × Operand)} {n:List (Nat × TypeId)} {z:List Value} {cs:List AV}
  (m:(zl P t).kind= .struct n) (r:n.all (λf=>(zl P f.2).ok)=true) (k:(zl P t).zero=some z) (D:vN (Jh P n) (z.map .v) (evs T p.toList)=some cs):
  DidV P (Instr.build t (p.map λ(i,x)=>(i,a.eval x))) B w g h (.ag cs) h:=by
 have y:=zha k
 obtain ⟨d,i,F,u,e⟩:=qr y
 rw[e] at k m
 cases d<;>try (cases m;done)
 rename_i fields
 injection m with m
 cases l:i.zero with
 | none=>rw[l] at k;cases k
 | some E=>
   rw[l] at k
   injection k with k
   subst k
   have o:(fields.toList.all λf=>(zl P f.type).ok)=true:=by rw[<-m,List.all_map] at r;exact r
   have q:=Yd (P:=P) fields.toList o
   obtain ⟨b,A,s⟩:=JV (c:=ctx w g h) (Jh P n) (evs T p.toList) (p.toList.map λ(i,x)=>(i,a.eval x)) _ cs E.cells (KY G _) (ZT _) D
   refine qC C hB (v:= .agg b) (run_build w t _ b ?_) ⟨b,rfl,s⟩
   unfold Program.built
   simp only[u,F,l,q]
   have:(λx=>(fields.toList.map λf=>(f.offset,(zl P f.type).sz)).toArray[x]?)=Jh P n:=by
    funext j
    rw[<-m]
    simp[Jh,Option.map_map,Function.comp_def]
   rw[this]
   simpa using A
theorem WT (K:HOk B w g h) (hB:B<=w.heap.size) (C:kU (ctx w g h) T a) {t e:TypeId} {m:Nat} {l:Array (Nat × Operand)} {z:List Value} {cs:List AV}
  (o:(zl P t).kind= .arr m e) (s:(zl P e).ok=true) (f:(zl P t).zero=some z) (J:vN (wB (zl P e).sz) (z.map .v) (evs T l.toList)=some cs):
  DidV P (Instr.build t (l.map λ(i,x)=>(i,a.eval x))) B w g h (.ag cs) h:=by
 have u:=zha f
 obtain ⟨d,i,A,F,D⟩:=qr u
 rw[D] at f o
 cases d<;>try (cases o;done)
 rename_i n k
 injection o with hk1 hk2
 subst hk2
 obtain ⟨L,I,H,r,q⟩:=qr s
 cases j:i.zero with
 | none=>rw[j] at f;cases f
 | some y=>
   rw[j] at f
   injection f with f
   subst f
   obtain ⟨b,G,E⟩:=JV (c:=ctx w g h) (wB (zl P k).sz) (evs T l.toList) (l.toList.map λ(i,x)=>(i,a.eval x)) _ cs y.cells (KY C _) (ZT _) J
   refine qC K hB (v:= .agg b) (run_build w t _ b ?_) ⟨b,rfl,E⟩
   unfold Program.built
   simp only[F,A,j,r]
   have p:I.size=(zl P k).sz:=by rw[q]
   rw[p]
   have:(λi=>some (i*(zl P k).sz,(zl P k).sz))=wB (zl P k).sz:=rfl
   rw[this]
   simpa using G
theorem j5a (hh:HOk B w g h) (hB:B<=w.heap.size) (Y:kU (ctx w g h) T a) {t e:TypeId} {n:Nat} {r:Array (Nat × Operand)} {cs:List AV}
  (u:(zl P t).kind= .slice e) (V:(zl P e).ok=true) (h0:0<(zl P e).sz) (hn:n*(zl P e).sz<=16777216) (D:(zl P e).zero.isSome=true)
  (L:vN (wB (zl P e).sz) (z7a (n*(zl P e).sz)) (evs T r.toList)=some cs):
  ∃v w',(Instr.buildSlice t n (r.map λ(i,x)=>(i,a.eval x))).run P w= .ok v w'/\Made B w g h w' v (.row e (zl P e).sz (ZD (zl P e).sz n cs) 0) (λi=> .tl i 0):=by
 have X:=qv u (by simp)
 obtain ⟨d,i,R,hi,eq⟩:=qr X
 rw[eq] at u
 cases d<;>try (cases u;done)
 injection u with u
 subst u
 rename_i e
 obtain ⟨d',o,α,H,C⟩:=qr V
 have E:(zl P e).sz=o.size:=by rw[C]
 rw[E] at h0 hn L⊢
 cases A:o.zero with
 | none=>rw[C] at D;simp[A] at D
 | some z=>
   obtain ⟨k,U,S⟩:=JV (c:=ctx w g h) (wB o.size) (evs T r.toList) (r.toList.map λ(i,x)=>(i,a.eval x)) _ cs ((Array.range (n*o.size)).map (z.cells[· % z.cells.size]!)) (KY Y _)
    (by have:=qda (c:=ctx w g h) ((Array.range (n*o.size)).map (z.cells[· % z.cells.size]!)).toList;simpa using this) L
   have O:cs.length=n*o.size:=by
    have key:∀(l:List (Nat × AV)) (aZ rs:List AV),vN (wB o.size) aZ l=some rs->rs.length=aZ.length:=by
     intro l
     induction l with
     | nil=>intro aZ rs h;injection h with h;rw[h]
     | cons p l N=>
       intro aZ rs h
       obtain ⟨j,y⟩:=p
       simp only[vN] at h
       split at h
       ·split at h
        ·rename_i off size us hp hy hl
         cases q:lay aZ off us with
         | none=>rw[q] at h;cases h
         | some Z=>rw[q] at h;rw[N _ _ h,KW q]
        ·cases h
       ·cases h
    have J:∀m,(z7a m).length=m:=λm=>by induction m with | zero=>rfl | succ m N=>simp[z7a,N]
    rw[key _ _ _ L,J]
   obtain ⟨c1,c2,c3⟩:=Q8 o.size n cs O
   have s:k.size=n*o.size:=by have:=kC S;simp at this;omega
   have F:(Instr.buildSlice t n (r.map λ(i,x)=>(i,a.eval x))).run P w= .ok (.slice (some ⟨w.heap.size,0,none⟩) n n) (w.alloc (.cells k e)):=by
    by_cases G:n*o.size=0
    ·have M:n=0:=by
      rcases Nat.mul_eq_zero.1 G with h | h
      ·exact h
      ·omega
     subst M
     have e0:((Array.range 0).map (z.cells[· % z.cells.size]!))= #[]:=by simp
     have Q:Instr.fill (λi=>some (i*o.size,o.size)) #[] (r.map λ(i,x)=>(i,a.eval x)).toList=some k:=by
      have:=U
      rw[Nat.zero_mul,e0] at this
      rw[Array.toList_map]
      exact this
     generalize (r.map λ(i,x)=>(i,a.eval x))=qs at Q
     have e1:∀f:Nat->Value,(Array.range 0).map f= #[]:=λf=>by simp[Array.range]
     simp[Instr.buildSlice,run_underlying R,sizeOf,typeInfo,H,e1,Q,newRow]
    ·exact run_buildSlice w t e n _ k o z R H A (by omega) G (by rw[Array.toList_map];exact U)
   have W:n<=maxLen:=by
    have:n<=n*o.size:=Nat.le_mul_of_pos_right n h0
    simp only[maxLen]
    omega
   have K:k.toList.take (n*o.size)=k.toList:=List.take_of_length_le (by simp[s])
   have I:(w.alloc (.cells k e)).ownsRow B e o.size (.slice (some ⟨w.heap.size,0,none⟩) n n) (ZD o.size n cs).length k.toList:=by
    rw[c3]
    exact ⟨by simpa using s,.inr ⟨w.heap.size,n,k,rfl,hB,heap_alloc_new w _,Nat.le_refl _,W,s,K⟩⟩
   exact ⟨_,_,F,.row e o.size _ _ h0 c2 ((Below.refl _ w).alloc (Nat.le_refl _) _) I (by rw[c1];exact S) (λb J=>by simp[Value.ownBlock] at J;omega)⟩
theorem Q9 (z:Array Value) (n:Nat):(madeCells z (n*z.size)).toList=(List.replicate n z.toList).flatten:=by
 by_cases o:z.size=0
 ·have d:z= #[]:=Array.eq_empty_of_size_eq_zero o
  subst d
  have:(List.replicate n ([]:List Value)).flatten=[]:=by rw[List.flatten_eq_nil_iff];intro l c;exact List.eq_of_mem_replicate c
  simp[madeCells,this,Array.range_zero']
 ·have v:∀x∈List.replicate n z.toList,x.length=z.size:=λx b=>by rw[List.eq_of_mem_replicate b];simp
  have c:(List.replicate n z.toList).flatten.length=n*z.size:=by
   have:∀m,(List.replicate m z.toList).flatten.length=m*z.size:=λm=>by
    induction m with
    | zero=>simp
    | succ m u=>rw[List.replicate_succ,List.flatten_cons,List.length_append,u,Nat.succ_mul];simp;omega
   exact this n
  apply List.ext_getElem?
  intro j
  by_cases f:j<n*z.size
  ·have e:j % z.size<z.size:=Nat.mod_lt _ (by omega)
   have s:j / z.size<n:=by rw[Nat.div_lt_iff_lt_mul (by omega)];exact f
   have q:(List.replicate n z.toList)[j / z.size]? =some z.toList:=by rw[List.getElem?_replicate,if_pos s]
   have h:z.toList[j % z.size]? =some z[j % z.size]:=by simp[e]
   have key:∀ {xs:List (List Value)},(∀x∈xs,x.length=z.size)->∀ {i k:Nat} {r:List Value} {a:Value},xs[i]? =some r->r[k]? =some a->xs.flatten[i*z.size+k]? =some a:=λb _ _ _ _ p t=>ye b p t
   have g:=key v q h
   rw[show j / z.size*z.size+j % z.size=j by rw[Nat.mul_comm];exact Nat.div_add_mod j z.size] at g
   rw[g]
   simp[madeCells,f,e]
  ·rw[List.getElem?_eq_none (by simp[madeCells];omega),List.getElem?_eq_none (by rw[c];omega)]
theorem j6a (U:HOk B w g h) (hB:B<=w.heap.size) {t e:TypeId} {k1 k2:IntKind} {n:Int} {z:List Value}
  (j:(zl P t).kind= .slice e) (Q:0<=n) (r:n*((zl P e).bytes+1)<=140737488355328) (K:(zl P e).ok=true) (h0:0<(zl P e).sz) (s:(zl P e).zero=some z) (C:z.length=(zl P e).sz):
  ∃v w',(Instr.makeSlice t (.int k1 n) (.int k2 n)).run P w= .ok v w'/\Made B w g h w' v (.row e (zl P e).sz (List.replicate n.toNat (z.map .v)) 0) (λi=> .tl i 0):=by
 obtain ⟨d,it,F,R,eq⟩:=qr (qv j (by simp))
 rw[eq] at j
 cases d<;>try (cases j;done)
 injection j with j
 subst j
 rename_i e
 obtain ⟨S,i,L,H,c⟩:=qr K
 have y:(zl P e).sz=i.size:=by rw[c]
 have A:(zl P e).bytes=i.bytes:=by rw[c]
 rw[y] at h0 C⊢
 rw[A] at r
 cases a:i.zero with
 | none=>rw[c] at s;simp[a] at s
 | some o=>
   have p:o.cells.toList=z:=by rw[c] at s;simpa [a] using s
   obtain ⟨m,rfl⟩:=Int.eq_ofNat_of_zero_le Q
   have u:m*(i.bytes+1)<=140737488355328:=by
    have:((m*(i.bytes+1):Nat):Int)<=140737488355328:=by simpa using r
    omega
   rw[Nat.mul_add,Nat.mul_one,Nat.mul_comm] at u
   have l:o.cells.size=i.size:=by rw[<-C, <-p];simp
   obtain ⟨w',J,N,q⟩:=run_make_full (P:=P) w B t e i o i.size F H a rfl k1 k2 m (by omega) (by simp only[maxLen];omega) hB
   obtain ⟨G,I,O,_⟩:=run_make_full (P:=P) w w.heap.size t e i o i.size F H a rfl k1 k2 m (by omega) (by simp only[maxLen];omega) (Nat.le_refl _)
   have D:G=w':=by rw[J] at I;injection I with _ h;exact h.symm
   subst D
   refine ⟨_,G,J,?_⟩
   have f:(madeCells o.cells (m*i.size)).toList=(List.replicate m z).flatten:=by rw[<-l,Q9,p]
   have E:(List.replicate m (z.map AV.v)).flatten=(List.replicate m z).flatten.map AV.v:=by
    induction m with
    | zero=>simp
    | succ m T=>simp[List.replicate_succ]
   simp only[Int.toNat_natCast,Int.ofNat_eq_natCast]
   refine .row e i.size _ (madeCells o.cells (m*i.size)).toList h0 (λx M=>by rw[List.eq_of_mem_replicate M];simp[C]) ⟨q.os,q.tape,q.output,q.size,λk j=>q.block k j (by simp)⟩ (by simpa using N) ?_ (λb r=>(World.ownsRow.lt O b r).1)
   rw[E,f]
   exact ZT _
theorem Vg (p:HOk B w g h) (hB:B<=w.heap.size) (q:kU (ctx w g h) T a) {op:Op} {o:Ob} {mk:Nat->AV} (b:qy P T op=some (o,mk)) (dst:Option Tmp) (type:TypeId) (pos:String) (after:Array Edge) (guard:Option (Nat × Bool)):
  ∃v w',(execOp a.eval ⟨dst,op,type,pos,after,guard⟩).run P w= .ok (.value v) w'/\Made B w g h w' v o mk:=by
 unfold qy at b
 split at b
 ·rename_i t
  split at b
  ·rename_i x
   cases f:(zl P t).zero with
   | none=>rw[f] at b;cases b
   | some z=>
     rw[f] at b
     injection b with b;injection b with hx1 hx2;subst hx1 hx2
     obtain ⟨v,w',i,j⟩:=vva (P:=P) p x f
     exact ⟨v,w',by simp[execOp,i],j⟩
  ·cases b
 ·rename_i t y
  cases d:(ev T y).cells with
  | none=>rw[d] at b;cases b
  | some cs=>
    rw[d] at b
    injection b with b;injection b with hx1 hx2;subst hx1 hx2
    obtain ⟨v,w',i,j⟩:=QHa (P:=P) (t:=t) p (qJ q y) d
    exact ⟨v,w',by simp[execOp,i],j⟩
 ·rename_i t n s
  split at b
  ·rename_i e r
   split at b
   ·rename_i k
    cases d:vN (wB (zl P e).sz) (z7a (n*(zl P e).sz)) (evs T s.toList) with
    | none=>rw[d] at b;cases b
    | some cs=>
      rw[d] at b
      injection b with b;injection b with hx1 hx2;subst hx1 hx2
      obtain ⟨v,w',i,j⟩:=j5a p hB q r k.1 k.2.1 k.2.2.1 k.2.2.2 d
      exact ⟨v,w',by simp[execOp,i],j⟩
   ·cases b
  ·cases b
 ·rename_i t l c
  split at b
  ·rename_i e k1 n k2 m r E d
   split at b
   ·rename_i k
    obtain ⟨A,C,D,u,f5,f6⟩:=k
    subst A
    cases f:(zl P e).zero with
    | none=>rw[f] at b;cases b
    | some z=>
      rw[f] at b f6
      injection b with b;injection b with hx1 hx2;subst hx1 hx2
      have i:=wt q E
      have j:=wt q d
      obtain ⟨v,w',G,F⟩:=j6a (P:=P) (k1:=k1) (k2:=k2) p hB r C D u f5 f (by simpa using f6)
      exact ⟨v,w',by simp[execOp,i,j,G],F⟩
   ·cases b
  ·cases b
 ·rename_i t
  split at b
  ·injection b with b;injection b with hx1 hx2;subst hx1 hx2
   exact ⟨.map (some w.heap.size),w.alloc (.map #[] 0),by simp[execOp,Instr.makeMap,newObj];rfl,.map rfl rfl⟩
  ·cases b
 ·cases b
end
section
variable {B:Nat} {w:World} {g:Gh} {h h':List Ob} {P:Program} {x:AV}
theorem kHa (n:HOk B w g h) {a:AV} {e i k:Nat} {u:Value} (p:AR (ctx w g h) (.ep a e i k) u) {xs:List (List AV)} (d:eOf h a=some e) (l:zq h a=some xs):
  ∃A b,AR (ctx w g h) a (.slice (some A) xs.length b)/\RowsAt w (ctx w g h) e xs (some A)/\i<xs.length/\u= .pointer (some (A.add (i*e+k))):=by
 obtain ⟨A,m,b,c,f,q⟩:=p
 obtain ⟨r,k',o,s,j,_⟩:=kD n _ c l
 injection o with e4 e5 e6
 subst e5 e6
 have:=j e d
 rw[<-e4] at this
 exact ⟨A,b,c,this,f,q⟩
theorem qfa (f:HOk B w g h) (hB:B<=w.heap.size) {t:TypeId} {p:AV} {u:Value} (o:AR (ctx w g h) p u) (c:ZE h (zl P t) p=some x):DidV P (Instr.loadAt t u) B w g h x h:=by
 cases p with
 | ptr id off=>
   simp only[ZE] at c
   split at c
   ·rename_i ty cs z
    split at c
    ·rename_i C
     obtain ⟨v,s,j⟩:=XB (P:=P) C (Vc f z) c
     obtain ⟨_,e⟩:=o
     subst e
     refine qC f hB (v:=v) ?_ j
     rw[Addr.add_lit,Nat.zero_add] at s
     simpa [Instr.loadAt,Instr.sureAddr,ctx] using s
    ·cases c
   ·cases c
 | ep a e i k=>
   simp only[ZE] at c
   split at c
   ·rename_i y
    cases n:zq h a with
    | none=>rw[n] at c;cases c
    | some xs=>
      rw[n] at c
      simp only[Option.bind_some] at c
      cases l:xs[i]? with
      | none=>rw[l] at c;cases c
      | some r=>
        rw[l] at c
        obtain ⟨A,J,_,j,K,H⟩:=kHa f o y.2 n
        subst H
        have d:PartAt w (ctx w g h) (A.add (i*e)) r:=λk b E=>by
         obtain ⟨I,u,m,G,D⟩:=j.cell i k r b l E
         injection m with m
         subst m
         exact ⟨u,by rw[Addr.add_add];exact G,D⟩
        obtain ⟨v,q,F⟩:=XB (P:=P) y.1 d c
        refine qC f hB (v:=v) ?_ F
        rw[Addr.add_add] at q
        simpa [Instr.loadAt,Instr.sureAddr] using q
   ·cases c
 | _=>cases c
theorem Jk {rest:List AV}:∀ {r:List AV} {k:Nat} {ns c:List AV},lay r k ns=some c->lay (r++rest) k ns=some (c++rest)
 | r,0,[],c,h=>by
   have e:∀l:List AV,lay l 0 []=some l:=λl=>by cases l<;>rfl
   rw[e] at h;cases h;exact e _
 | [],k+1,_,_,h=>by cases h
 | [],0,_::_,_,h=>by cases h
 | a::r,0,n::ns,c,h=>by
   simp only[lay] at h
   cases b:lay r 0 ns with
   | none=>rw[b] at h;cases h
   | some q=>
     rw[b] at h;injection h with h;subst h
     simp[lay,Jk b]
 | a::r,k+1,ns,c,h=>by
   simp only[lay] at h
   cases b:lay r k ns with
   | none=>rw[b] at h;cases h
   | some q=>
     rw[b] at h;injection h with h;subst h
     simp[lay,Jk b]
theorem qga {rest b:List AV} {m:Nat} {ns:List AV} (h:lay rest m ns=some b):∀(x:List AV),lay (x++rest) (x.length+m) ns=some (x++b)
 | []=>by simpa using h
 | a::x=>by
   rw[List.length_cons,show x.length+1+m=(x.length+m)+1 by omega]
   simp[lay,qga h x]
theorem Ko {e:Nat}:∀ {xs:List (List AV)},(∀x∈xs,x.length=e)->∀ {i k:Nat} {r ns b:List AV},xs[i]? =some r->lay r k ns=some b->lay xs.flatten (i*e+k) ns=some (xs.set i b).flatten
 | x::xs,h,0,k,r,ns,b,a,c=>by
   injection a with a
   subst a
   simpa using Jk (rest:=xs.flatten) c
 | x::xs,h,i+1,k,r,ns,b,a,c=>by
   have d:=h x (by simp)
   have:=qga (Ko (xs:=xs) (λy f=>h y (by simp[f])) (i:=i) a c) x
   rw[d] at this
   rw[show (i+1)*e+k=e+(i*e+k) by rw[Nat.succ_mul];omega]
   simpa using this
theorem kIa (D:HOk B w g h) (hB:B<=w.heap.size) {id ty e st:Nat} {xs xs':List (List AV)} (r:h[id]? =some (.row ty e xs st)) {A:Addr} {S Q:Nat} (d:g.cur id= .slice (some A) S Q) {o:Nat} {vs:List Value} {ns:List AV}
  (n:ARs (ctx w g h) ns vs) (M:∀v∈vs,v.oneCell'=true) (f:lay xs.flatten o ns=some xs'.flatten) (p:∀x∈xs',x.length=e) (a:xs'.length=xs.length):
  ∃w' g',(storeCells (A.add o) vs).run P w= .ok () w'/\Good B w g h w' g' (h.set id (.row ty e xs' st)):=by
 obtain ⟨W,V,cells,y,H⟩:=D.ok id _ r
 obtain ⟨R,t⟩:=JU H _ n f
 rcases y.2 with ⟨q,_⟩ | ⟨j,cap,cur,q,I,u,C,K,E,T⟩
 ·have c:g.cur id=_:=q
  rw[c] at d;cases d
 ·have c:g.cur id=_:=q
  have k:A=⟨j,0,none⟩:=by
   rw[c] at d
   injection d with d
   injection d with d
   exact d.symm
  subst k
  have G:cells.length=xs.length*e:=y.1
  have U:xs.length*e<=cur.size:=by rw[E];exact Nat.mul_le_mul_right _ C
  have N:o+vs.length<=xs.length*e:=by rw[G] at t;exact t
  have i:=run_storeCells_at P j o ty vs 0 cur w u (by simp only[Nat.add_zero];omega) M
  simp only[Nat.add_zero] at i
  rw[Addr.add_lit,Nat.zero_add]
  refine ⟨_,_,i,yC (v':=g.cur id) (st':=st) (cells:=cells.take o++vs++cells.drop (o+vs.length)) D hB r p ?_ ?_ R (.inl ⟨rfl,rfl⟩) (λb J=> .inl J)⟩
  ·rw[c]
   exact ZV w j _
  ·rw[c]
   refine ⟨?_,.inr ⟨j,cap,_,by rw[a],I,setRow_heap w j cur _ ty _ u,by rw[a];exact C,K,?_,?_⟩⟩
   ·simp only[List.length_append,List.length_take,List.length_drop]
    rw[a]
    omega
   ·simp only[List.size_toArray,List.length_append,List.length_take,List.length_drop,Array.length_toList]
    omega
   ·rw[a, <-T]
    apply List.ext_getElem?
    intro m
    simp only[List.getElem?_take,List.getElem?_append,List.length_take,List.length_append,List.getElem?_drop,Array.length_toList]
    have O:min (xs.length*e) cur.size=xs.length*e:=by omega
    simp only[O]
    have L:min o (xs.length*e)=o:=by omega
    have l:min o cur.size=o:=by omega
    simp only[L,l]
    by_cases s:m<o
    ·simp[s,show m<o+vs.length by omega,show m<xs.length*e by omega]
    ·by_cases z:m<o+vs.length
     ·simp[s,z,show m<xs.length*e by omega]
     ·have F:o+vs.length+(m - (o+vs.length))=m:=by omega
      simp[z,F]
theorem vxa (D:HOk B w g h) (hB:B<=w.heap.size) {t:TypeId} {p y:AV} {u v:Value} {ns:List AV} (Q:AR (ctx w g h) p u) (hy:AR (ctx w g h) y v) (V:(zl P t).ok=true) (hn:y.cells=some ns) (O:ns.length=(zl P t).sz)
  (b:wC h ns p=some h'):∃w' g',(Instr.storeAt t u v).run P w= .ok () w'/\Good B w g h w' g' h':=by
 obtain ⟨d,i,hu,N,eq⟩:=qr V
 obtain ⟨m,C⟩:=Vb hn hy
 have f:v.cells.size=i.size:=by
  have:=kC m
  rw[eq] at O
  simp at this O
  omega
 have z:∀(q off:Nat) (ty:TypeId) (cur:Array Value),w.heap[q]? =some (.cells cur ty (0,0))->off+v.cells.toList.length<=cur.size->
   (Instr.storeAt t (.pointer (some ⟨q,off,none⟩)) v).run P w= .ok () (w.setRow q (cur.toList.take off++v.cells.toList++cur.toList.drop (off+v.cells.toList.length)).toArray):=λq off ty cur hg X=>by
  have:=run_storeCells_at P q off ty v.cells.toList 0 cur w hg (by simpa using X) C
  simp only[Nat.add_zero] at this
  simp[Instr.storeAt,Instr.sureAddr,storeVar,sizeOf,typeInfo,N,f]
  simpa [f] using this
 cases p with
 | ptr id off=>
   simp only[wC] at b
   split at b
   ·rename_i ty cs l
    cases c:lay cs off ns with
    | none=>rw[c] at b;cases b
    | some cs'=>
      rw[c] at b
      injection b with b
      subst b
      obtain ⟨R,vs,M,S⟩:=D.ok id _ l
      obtain ⟨K,Y⟩:=JU S off m c
      obtain ⟨_,e⟩:=Q
      subst e
      exact ⟨_,_,z _ off ty vs M (by simpa using Y),yaa D hB l (by simpa using K)⟩
   ·cases b
 | ep a e j k=>
   cases a<;>try (cases b;done)
   rename_i id st
   simp only[wC] at b
   split at b
   ·rename_i ty H xs s l
    split at b
    ·rename_i Z
     obtain ⟨I,L⟩:=Z
     subst I L
     cases F:xs[j]? with
     | none=>rw[F] at b;cases b
     | some r=>
       rw[F] at b
       simp only[Option.bind_some] at b
       cases c:lay r k ns with
       | none=>rw[c] at b;cases b
       | some U=>
         rw[c] at b
         injection b with b
         subst b
         have W:eOf h (.tl id s)=some H:=by simp[eOf,l]
         have hr:zq h (.tl id s)=some xs:=by simp[zq,l]
         obtain ⟨A,cp,R,M,S,K⟩:=kHa D Q W hr
         subst K
         have E:=ZU R l
         obtain ⟨q0,G,cells,q2,q3⟩:=D.ok id _ l
         have J:=Ko G F c
         have n:∀x∈xs.set j U,x.length=H:=λx b=>by
          rcases List.mem_or_eq_of_mem_set b with b | b
          ·exact G x b
          ·subst b;rw[KW c];exact G r (List.mem_of_getElem? F)
         obtain ⟨w',g',T,z2⟩:=kIa (P:=P) D hB l E.symm (o:=j*H+k) m C J n (by simp)
         refine ⟨w',g',?_,z2⟩
         simp[Instr.storeAt,Instr.sureAddr,storeVar,sizeOf,typeInfo,N,f]
         simpa [f] using T
    ·cases b
   ·cases b
 | _=>cases b
end
section
variable {B:Nat} {w:World} {g:Gh} {h h':List Ob} {P:Program} {x:AV} {T:Nat->AV} {a:Act}
theorem ZG {t ty e:TypeId} {i:TypeInfo} (a:P.underlying t=some (.slice e)) (c:P.info? e=some i) (base:Option Addr) (n cap k:Nat) (b:n<=cap):
  (Builtin.append_ #[t,t] ty #[.slice base n cap,.slice none 0 k]).run P w= .ok (.slice base n cap) w:=by
 cases base<;>simp[Builtin.append_,run_underlying a,sizeOf,typeInfo,c,Builtin.lenOf,b,Builtin.firstCells,storeCells]
theorem Ye {c:Ctx} {e:Nat} {xs:List (List AV)} {A:Addr} (f:RowsAt w c e xs (some A)) (B:∀r∈xs,r.all AV.one=true):
  ∃news:List Value,news.length=xs.length*e/\(∀j u,news[j]? =some u->w.cell? (A.add j)=some u)/\(∀u∈news,u.oneCell'=true)/\ARs c xs.flatten news:=by
 have y:PartAt w c A xs.flatten:=λk a l=>by
  by_cases v:e=0
  ·have:xs.flatten=[]:=by
    apply List.eq_nil_of_length_eq_zero
    rw[xP f.len,v,Nat.mul_zero]
   rw[this] at l;cases l
  ·have g:=(List.getElem?_eq_some_iff.1 l).1
   rw[xP f.len] at g
   have q:k / e<xs.length:=by rw[Nat.div_lt_iff_lt_mul (by omega)];exact g
   have D:k % e<e:=Nat.mod_lt _ (by omega)
   have d:xs[k / e]? =some xs[k / e]:=List.getElem?_eq_getElem q
   have x:xs[k / e].length=e:=f.len _ (List.getElem_mem q)
   have b:xs[k / e][k % e]? =some xs[k / e][k % e]:=List.getElem?_eq_getElem (by omega)
   have i:=ye f.len d b
   have h:k / e*e+k % e=k:=by rw[Nat.mul_comm];exact Nat.div_add_mod k e
   rw[h,l] at i
   injection i with i
   obtain ⟨E,u,o,s,t⟩:=f.cell _ _ _ _ d b
   injection o with o
   subst o
   rw[h] at s
   exact ⟨u,s,by rw[i];exact t⟩
 obtain ⟨vs,m,C⟩:=y.vals
 refine ⟨vs,by rw[<-kC m,xP f.len],C,?_,m⟩
 refine XA ?_ m
 rw[List.all_eq_true]
 intro a z
 obtain ⟨r,p,n⟩:=List.mem_flatten.1 z
 exact List.all_eq_true.1 (B r p) a n
theorem zia {a:Nat} {e:TypeId} {size:Nat} {v:Value} {k:Nat} {xs:List Value} (h:w.ownsRow B e size v k xs) (f:a<=B):w.ownsRow a e size v k xs:=by
 refine ⟨h.1,?_⟩
 rcases h.2 with b | ⟨g,cap,cur,d,c,r⟩
 ·exact .inl b
 ·exact .inr ⟨g,cap,cur,d,Nat.le_trans f c,r⟩
theorem j7a {t ty e:TypeId} {i:TypeInfo} {z:Value} (p:P.underlying t=some (.slice e)) (r:P.info? e=some i) (C:i.zero=some z) (E:0<i.size)
  {D:Nat} {v:Value} {n:Nat} {xs:List Value} (h:w.ownsRow D e i.size v n xs) {l:Addr} {m c:Nat} {news:List Value} (s:news.length=m*i.size) (a:∀j u,news[j]? =some u->w.cell? (l.add j)=some u) (G:∀u∈news,u.oneCell'=true)
  (A:n+m<=maxLen) (d:(n+m)*i.bytes<=140737488355328) {v':Value} {w':World} (k:(Builtin.append_ #[t,t] ty #[v,.slice (some l) m c]).run P w= .ok v' w') (b:Nat) (x:v'.ownBlock=some b):
  v.ownBlock=some b∨w.heap.size<=b:=by
 have q:n+m<=9223372036854775807:=by simp only[maxLen] at A;omega
 rcases h.2 with ⟨rfl,rfl⟩ | ⟨g,cap,cur,rfl,J,I,K,H,B,y⟩
 ·by_cases F:m=0
  ·subst F
   have:(Builtin.append_ #[t,t] ty #[.slice none 0 0,.slice (some l) 0 c]).run P w= .ok (.slice none 0 0) w:=by
    simp[Builtin.append_,run_underlying p,sizeOf,typeInfo,r,Builtin.lenOf,Builtin.firstCells,loadCells,loadCellsFrom]
   rw[this] at k
   injection k with e1 e2
   subst e1
   simp[Value.ownBlock] at x
  ·rw[run_append_nil (P:=P) w t ty e i z p r C l m c news s a (by omega) (by omega) (by simp only[Nat.zero_add] at d;omega)] at k
   injection k with e1 e2
   subst e1
   simp[Value.ownBlock] at x
   exact .inr (by omega)
 ·by_cases f:n+m<=cap
  ·have o:n*i.size+news.length<=cur.size:=by rw[s,B, <-Nat.add_mul];exact Nat.mul_le_mul_right _ f
   rw[run_append_room (P:=P) w t ty e i p r g n cap cur I l m c news s a G f o] at k
   injection k with e1 e2
   subst e1
   exact .inl x
  ·have holds:∀j u,xs[j]? =some u->w.cell? ((⟨g,0,none⟩:Addr).add j)=some u:=h.cells (g:=g) rfl
   rw[run_append_grow (P:=P) w t ty e i z p r C ⟨g,0,none⟩ n cap xs h.1 holds l m c news s a (by omega) (by omega) (growslice_fits (by omega) d)] at k
   injection k with e1 e2
   subst e1
   simp[Value.ownBlock] at x
   exact .inr (by omega)
theorem j8a (hh:HOk B w g h) (hB:B<=w.heap.size) {t ty e:TypeId} {s y:AV} {u v:Value} (hs:AR (ctx w g h) s u) (hy:AR (ctx w g h) y v) (L:(zl P t).kind= .slice e) (a:y8 P h e s y=some (x,h')):
  DidV P (Builtin.append_ #[t,t] ty #[u,v]) B w g h x h':=by
 obtain ⟨d,it,V,hit,eq⟩:=qr (qv L (by simp))
 rw[eq] at L
 cases d<;>try (cases L;done)
 injection L with L
 subst L
 rename_i e
 unfold y8 at a
 cases o:zq h y with
 | none=>simp[o] at a
 | some ys=>
   simp only[o,Option.bind_some] at a
   split at a
   ·rename_i hc
    obtain ⟨ho,h0,hz,M⟩:=hc
    obtain ⟨d',i,hu',Z,I⟩:=qr ho
    have η:(zl P e).sz=i.size:=by rw[I]
    have θ:(zl P e).bytes=i.bytes:=by rw[I]
    rw[η] at h0 M hz a
    rw[θ] at a
    cases p:i.zero with
    | none=>rw[I] at hz;simp[p] at hz
    | some z=>
      rw[I] at hz
      have W:z.cells.size=i.size:=by simpa [p] using hz
      have c:∀r∈ys,r.length=i.size/\r.all AV.one=true:=λr o=>by
       have:=List.all_eq_true.1 M r o
       simpa only[Bool.and_eq_true,beq_iff_eq] using this
      obtain ⟨A,k,e1,e2,e3,e4⟩:=kD hh _ hy o
      subst e1
      have D:(∃m,A=some m)->∃m news,A=some m/\news.length=ys.length*i.size/\(∀j u,news[j]? =some u->w.cell? (m.add j)=some u)/\(∀u∈news,u.oneCell'=true)/\ARs (ctx w g h) ys.flatten news:=by
       rintro ⟨m,rfl⟩
       cases f:ys with
       | nil=>exact ⟨m,[],rfl,by simp,by simp,by simp,rfl⟩
       | cons r rs=>
         cases Y:eOf h y with
         | none=>rw[e4 Y] at f;cases f
         | some X=>
           have H:=e3 X Y
           have ο:X=i.size:=by rw[<-H.len r (by rw[f];simp),(c r (by rw[f];simp)).1]
           subst ο
           obtain ⟨news,n1,n2,n3,n4⟩:=Ye H λr o=>(c r o).2
           rw[<-f]
           exact ⟨m,news,rfl,n1,n2,n3,n4⟩
      have C:A=none->ys=[]:=λG=>by
       cases f:ys with
       | nil=>rfl
       | cons r rs=>
         cases Y:eOf h y with
         | none=>rw[e4 Y] at f;cases f
         | some X=>
           have H:=e3 X Y
           have hr0:=(c r (by rw[f];simp)).1
           obtain ⟨m,u,q1,_⟩:=H.cell 0 0 r (nth r 0) (by rw[f];rfl) (yc (by omega))
           rw[G] at q1;cases q1
      split at a
      ·rename_i id st
       split at a
       ·rename_i F X xs s E
        split at a
        ·rename_i τ
         obtain ⟨c1,c2,c3,U⟩:=τ
         subst c1 c2 c3
         injection a with a
         injection a with hx1 hx2
         subst hx1 hx2
         have n:=ZU hs E
         obtain ⟨q0,q1,cells,q2,q3⟩:=hh.ok id _ E
         have q:w.ownsRow B F i.size (g.cur id) xs.length cells:=q2
         rw[<-n] at q
         have μ:xs.length+ys.length<=140737488355328:=Nat.le_trans (Nat.le_mul_of_pos_right _ (by omega)) U
         have J:(xs.length+ys.length)*i.bytes<=140737488355328:=Nat.le_trans (Nat.mul_le_mul_left _ (by omega)) U
         have σ:∀x∈xs++ys,x.length=i.size:=λx a=>by
          rcases List.mem_append.1 a with a | a
          ·exact q1 x a
          ·exact (c x a).1
         have fin:∀(v':Value) (w':World) (l:List Value),w'.ownsRow B F i.size v' (xs++ys).length l->ARs (ctx w g h) (xs++ys).flatten l->w.grownBy w' (g.cur id).ownBlock->(∀b,v'.ownBlock=some b->(g.cur id).ownBlock=some b∨w.heap.size<=b)->
           Good B w g h w' ⟨g.β,λj=>if j=id then v' else g.cur j⟩ (h.set id (.row F i.size (xs++ys) (s+1)))/\AR (ctx w' ⟨g.β,λj=>if j=id then v' else g.cur j⟩ (h.set id (.row F i.size (xs++ys) (s+1)))) (.tl id (s+1)) v':=λv' w' l O S K r4=>by
          refine ⟨yC hh hB E σ K O S (.inr (by omega)) r4,?_,⟨_,List.getElem?_set_self (xO E),rfl⟩,λs' φ=>?_⟩
          ·obtain ⟨A,cp,e1,_⟩:=vk O;exact ⟨A,_,cp,e1⟩
          ·have:s+1=s':=by
            have:=φ
            simp only[ctx,List.getElem?_set_self (xO E),Ob.tok,Option.some.injEq] at this
            exact this
           exact ⟨by omega,λ_=>by simp[ctx]⟩
         cases G:A with
         | none=>
           have R:=C G
           subst R
           obtain ⟨A0,cp,z1,z2⟩:=vk q
           have o:=ZG (P:=P) (w:=w) (ty:=ty) V Z A0 xs.length cp k z2
           rw[<-z1] at o
           obtain ⟨Q,N⟩:=fin u w cells (by simpa using q) (by simpa using q3) ⟨rfl,rfl,rfl,Nat.le_refl _,λ_ _ _=>rfl⟩ (λb hb=> .inl (by have e:u=g.cur id:=n;rw[<-e];exact hb))
           exact ⟨_,_,_,by simpa using o,Q,N⟩
         | some m=>
           obtain ⟨ι,news,n1,n2,n3,n4,n5⟩:=D ⟨m,G⟩
           rw[G] at n1
           injection n1 with n1
           subst n1
           obtain ⟨v',w',O,S,K,r4⟩:=run_append_own (P:=P) w B t ty F i z i.size i.bytes V Z p rfl rfl W h0 u xs.length cells q m ys.length k news n2 n3 n4 (by simp only[maxLen];omega) J hB
           have υ:w.grownBy w' (g.cur id).ownBlock:=by have e:u=g.cur id:=n;rw[<-e];exact K
           obtain ⟨Q,N⟩:=fin v' w' (cells++news) (by rw[List.length_append];exact S) (by rw[List.flatten_append];exact vj q3 n5) υ (λb hb=>by
            rcases j7a (P:=P) (w:=w) V Z p h0 q n2 n3 n4 (by simp only[maxLen];omega) J O b hb with h9 | h9
            ·have e:u=g.cur id:=n
             exact .inl (by rw[<-e];exact h9)
            ·exact .inr h9)
           exact ⟨_,_,_,O,Q,N⟩
        ·cases a
       ·cases a
      ·split at a
       ·rename_i U
        injection a with a
        injection a with hx1 hx2
        subst hx1 hx2
        have hs:u= .slice none 0 0:=hs
        subst hs
        have μ:ys.length<=140737488355328:=Nat.le_trans (Nat.le_mul_of_pos_right _ (by omega)) U
        have J:ys.length*i.bytes<=140737488355328:=Nat.le_trans (Nat.mul_le_mul_left _ (by omega)) U
        cases G:A with
        | none=>
          have R:=C G
          subst R
          have o:=ZG (P:=P) (w:=w) (ty:=ty) V Z none 0 0 k (Nat.le_refl _)
          obtain ⟨Q,N⟩:=ZW hh hB (ty:=e) h0 (xs:=[]) (by simp) 0 (Below.refl _ w) (World.ownsRow_nil w B e i.size) rfl (by simp[Value.ownBlock])
          exact ⟨_,_,_,by simpa using o,Q,N⟩
        | some m=>
          obtain ⟨ι,news,n1,n2,n3,n4,n5⟩:=D ⟨m,G⟩
          rw[G] at n1
          injection n1 with n1
          subst n1
          obtain ⟨v',w',O,S,K,r4⟩:=run_append_own (P:=P) w w.heap.size t ty e i z i.size i.bytes V Z p rfl rfl W h0 (.slice none 0 0) 0 [] (World.ownsRow_nil w _ e i.size) m ys.length k news n2 n3 n4 (by simp only[maxLen];omega) (by simpa using J) (Nat.le_refl _)
          have T:Below w.heap.size w w':=⟨K.os,K.tape,K.output,K.size,λk L=>K.block k L (by simp[Value.ownBlock])⟩
          obtain ⟨Q,N⟩:=ZW hh hB (ty:=e) h0 (λx a=>(c x a).1) 0 T (zia (by simpa using S) hB) n5 (λb hb=>(World.ownsRow.lt S b hb).1)
          exact ⟨_,_,_,O,Q,N⟩
       ·cases a
      ·cases a
   ·cases a
end
end Go.Proofs.YtfmldcilgbbimaaGreat.Ax
