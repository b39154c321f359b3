import Derived.Test.YtigdlmpjijhpaaaGreatKA
import Derived.Test.YtigdlmpjijhpaaaGreatK00
import Derived.Laws.CopyRow
import Derived.Great.BuildSlice
import Derived.Laws.OwnMore
set_option linter.all false
namespace Go.Proofs.YtigdlmpjijhpaaaGreat.Ax
open Go Go.RowKit
def xta:Nat->List AV
 | 0=>[]
 | n+1=> .bad::xta n
def Jw(e:Nat):Nat->List AV->List (List AV)
 | 0,_=>[]
 | n+1,l=>l.take e::Jw e n (l.drop e)
def yR(place:Nat->Option (Nat × Nat))(aZ:List AV):List (Nat × AV)->Option (List AV)
 | []=>some aZ
 | (i,a)::r=>match place i,a.cells with
   | some (off,size),some cs=>if cs.length=size then(lay aZ off cs).bind λb=>yR place b r else none
   | _,_=>none
def X7(P:Program)(a:List (Nat × TypeId))(i:Nat):Option (Nat × Nat):=a[i]?.map λf=>(f.1,(zQ P f.2).sz)
def Zz(sz:Nat)(i:Nat):Option (Nat × Nat):=some (i*sz,sz)
def evs(T:Nat->AV):List (Nat × Operand)->List (Nat × AV)
 | []=>[]
 | (i,x)::r=>(i,ev T x)::evs T r
def evl(T:Nat->AV):List Operand->List AV
 | []=>[]
 | x::r=>ev T x::evl T r
def kP:List AV->List AV->Option Bool
 | [],[]=>some true
 | .v (.int k a)::r,.v (.int k' b)::s=>if k=k' then(kP r s).map λt=>a==b && t else none
 | _,_=>none
def yu(P:Program):Nat->List (Nat × TypeId)->Bool
 | _,[]=>true
 | o,f::r=>f.1==o && (match (zQ P f.2).kind with | .int _=>true|_=>false) && yu P (o+1) r
def Vea(P:Program)(e:TypeId):Bool:=(match (zQ P e).kind with | .int _=>true|_=>false) && (zQ P e).sz==1
def xC(P:Program)(t:TypeId):Bool:= !P.eqGuardType P.depth t && !P.stoodInHeld t && (P.fieldsOf t).toList.all λf=>f.name != "_"
def yja:BinOp->Bool
 | .shl | .shr=>true
 | _=>false
def vya(op:BinOp)(k:IntKind)(a b:Int):Option AV:=match op with
 | .shr=>some (.v (.int k (a.fdiv (2 ^ min b.toNat k.bits))))
 | .shl=>some (.v (.int k (k.wrap (a*2 ^ min b.toNat k.bits))))
 | _=>none
def vza(op:BinOp)(k:IntKind)(a b:Int):Option AV:=match op with
 | .add=>some (.v (.int k (k.wrap (a+b))))
 | .sub=>some (.v (.int k (k.wrap (a - b))))
 | .mul=>some (.v (.int k (k.wrap (a*b))))
 | .or=>some (.v (.int k (k.wrap ((BitVec.ofInt k.bits a ||| BitVec.ofInt k.bits b).toNat:Int))))
 | .quo=>if b=0 then none else some (.v (.int k (k.wrap (a.tdiv b))))
 | .rem=>if b=0 then none else some (.v (.int k (a.tmod b)))
 | .eql=>some (.v (.bool (a==b)))
 | .neq=>some (.v (.bool (a != b)))
 | .lss=>some (.v (.bool (decide (a<b))))
 | .leq=>some (.v (.bool (decide (a<=b))))
 | .gtr=>some (.v (.bool (decide (a>b))))
 | .geq=>some (.v (.bool (decide (a≥b))))
 | _=>none
def Jna(P:Program)(op:BinOp)(t:TypeId):AV->AV->Option AV
 | .v (.int k a),.v (.int k' b)=>if yja op then(if 0<=b then vya op k a b else none) else if k=k' then vza op k a b else none
 | .v (.bool a),.v (.bool b)=>match (zQ P t).kind,op with
   | .bool,.eql=>some (.v (.bool (a==b)))
   | .bool,.neq=>some (.v (.bool (!(a==b))))
   | _,_=>none
 | .ag xs,.ag ys=>match (zQ P t).kind,op with
   | .struct c,.eql=>if xC P t && yu P 0 c && xs.length==c.length then(kP xs ys).map λb=> .v (.bool b) else none
   | .struct c,.neq=>if xC P t && yu P 0 c && xs.length==c.length then(kP xs ys).map λb=> .v (.bool (!b)) else none
   | .arr n e,.eql=>if xC P t && Vea P e && xs.length==n then(kP xs ys).map λb=> .v (.bool b) else none
   | _,_=>none
 | .v (.pointer none),.v (.pointer none)=>match (zQ P t).kind,op with
   | .ptr _,.eql=>some (.v (.bool true))
   | .ptr _,.neq=>some (.v (.bool false))
   | _,_=>none
 | .ptr _ _,.v (.pointer none)=>match (zQ P t).kind,op with
   | .ptr _,.eql=>some (.v (.bool false))
   | .ptr _,.neq=>some (.v (.bool true))
   | _,_=>none
 | .v (.string a),.v (.string b)=>match op with
   | .eql=>some (.v (.bool (a.toList==b.toList)))
   | .neq=>some (.v (.bool (!(a.toList==b.toList))))
   | _=>none
 | _,_=>none
def xua:List (List AV)->Option (List UInt8)
 | []=>some []
 | [.v (.int .u8 n)]::r=>(xua r).map (UInt8.ofNat n.toNat:: ·)
 | _=>none
def Joa(P:Program)(s:TypeId)(rows:List (List AV)):Option AV:=match (zQ P s).kind with
 | .slice e=>match (zQ P e).kind with
   | .int .u8=>(xua rows).map λl=> .v (.string ⟨l.toArray⟩)
   | _=>none
 | _=>none
def xva:AV->List AV->Option AV
 | a,[]=>some a
 | .v (.int k x),.v (.int _ y)::r=>xva (.v (.int k (if y>x then y else x))) r
 | _,_=>none
def xwa:AV->List AV->Option AV
 | a,[]=>some a
 | .v (.int k x),.v (.int _ y)::r=>xwa (.v (.int k (if y<x then y else x))) r
 | _,_=>none
def Jx(h:List Ob)(τ:Ty):AV->Option AV
 | .ptr id off=>match h[id]? with
   | some (.box _ cs)=>if τ.ok then part cs off τ.agg τ.sz else none
   | _=>none
 | .ep a e i k=>if τ.ok/\eOf h a=some e then(qa h a).bind λxs=>xs[i]?.bind λr=>part r k τ.agg τ.sz else none
 | _=>none
def ZA(h:List Ob)(ns:List AV):AV->Option (List Ob)
 | .ptr id off=>match h[id]? with
   | some (.box ty cs)=>(lay cs off ns).map λcs'=>h.set id (.box ty cs')
   | _=>none
 | .ep (.tl id st) e i k=>match h[id]? with
   | some (.row ty a xs s)=>if s=st/\a=e then xs[i]?.bind λr=>(lay r k ns).map λb=>h.set id (.row ty e (xs.set i b) st) else none
   | _=>none
 | _=>none
def vAa(h:List Ob)(n:Int)(a:AV):Option AV:=
 (qa h a).bind λxs=>(eOf h a).bind λe=>if 0<=n/\n<xs.length then some (.ep a e n.toNat 0) else none
def QY(P:Program)(h:List Ob)(e:TypeId)(s x:AV):Option (AV × List Ob):=
 let τ:=zQ P e
 (qa h x).bind λys=>
  if τ.ok/\0<τ.sz/\(τ.zero.map List.length)=some τ.sz/\ys.all (λr=>r.length==τ.sz && r.all AV.one) then
   match s with
   | .tl id st=>match h[id]? with
     | some (.row ty a xs s)=>if s=st/\ty=e/\a=τ.sz/\(xs.length+ys.length)*(τ.bytes+1)<=140737488355328 then some (.tl id (st+1),h.set id (.row ty a (xs++ys) (st+1))) else none
     | _=>none
   | .v (.slice none 0 0)=>if ys.length*(τ.bytes+1)<=140737488355328 then some (.tl h.length 0,h++[.row e τ.sz ys 0]) else none
   | _=>none
  else none
def YVa:AV->Bool
 | .em=>true
 | _=>false
def xZ:AV->Bool
 | .v (.slice none _ _)=>true
 | _=>false
def jxa:Option (List (List AV))->Option Nat->Bool
 | some (_::_),some e=>decide (0<e)
 | _,_=>false
def X8(h:List Ob)(a:AV):Bool:=YVa a || jxa (qa h a) (eOf h a)
def Yk(op:BinOp)(b:Bool):Option AV:=match op with
 | .eql=>some (.v (.bool b))
 | .neq=>some (.v (.bool (!b)))
 | _=>none
def xxa(P:Program)(h:List Ob)(op:BinOp)(t:TypeId)(a:AV):Option AV:=match (zQ P t).kind with
 | .slice _=>if xZ a then Yk op true else if X8 h a then Yk op false else none
 | _=>none
def Xr:Operand->Bool
 | .const (.slice none _ _)=>true
 | _=>false
def vm(h:List Ob):AV->Option (Nat × Nat × Nat × Nat)
 | .tl id st=>match h[id]? with
   | some (.row _ _ xs s)=>if s=st then some (id,st,0,xs.length) else none
   | _=>none
 | .vw (.tl id st) e i n=>match h[id]? with
   | some (.row _ a xs s)=>if s=st/\a=e/\i+n<=xs.length then some (id,st,i,n) else none
   | _=>none
 | _=>none
def kQ(xs:List (List AV))(i:Nat)(ys:List (List AV)):List (List AV):=xs.take i++ys++xs.drop (i+ys.length)
def vP(h:List Ob)(id i:Nat)(ty e:Nat)(ys:List (List AV)):Option (List Ob):=match h[id]? with
 | some (.row a b xs st)=>if a=ty/\b=e/\ys.all (λr=>r.length==e && r.all AV.one) then some (h.set id (.row a b (kQ xs i ys) st)) else none
 | _=>none
def Qu(P:Program)(T:Nat->AV)(h:List Ob)(c:Call):Option (AV × List Ob):=
 match c.callee,c.args.toList,c.argTypes.toList with
 | .builtin .len,[x],[t]=>match (zQ P t).kind with
   | .slice _=>(qa h (ev T x)).map λxs=>(.v (.int .i64 xs.length),h)
   | _=>none
 | .builtin .append,[s,x],[t,a]=>match (zQ P t).kind with
   | .slice e=>if a=t then QY P h e (ev T s) (ev T x) else none
   | _=>none
 | .builtin .clear,[x],[t]=>match (zQ P t).kind with
   | .slice e=>(vm h (ev T x)).bind λ(id,_,i,n)=>(zQ P e).zero.bind λz=>
     if(zQ P e).ok/\z.length=(zQ P e).sz then(vP h id i e (zQ P e).sz (List.replicate n (z.map .v))).map λh'=>(.tup [],h') else none
   | _=>none
 | .builtin .copy,[d,x],[t,a]=>match (zQ P t).kind with
   | .slice e=>if a=t/\(zQ P e).ok/\0<(zQ P e).sz then(vm h (ev T d)).bind λ(id,_,i,n)=>(qa h (ev T x)).bind λys=>
     (vP h id i e (zQ P e).sz (ys.take n)).map λh'=>(.v (.int .i64 ((ys.take n).length:Nat)),h') else none
   | _=>none
 | .builtin .max,x::r,_=>(xva (ev T x) (evl T r)).map (·,h)
 | .builtin .min,x::r,_=>(xwa (ev T x) (evl T r)).map (·,h)
 | _,_,_=>none
def yka(τ:Ty):Option AV:=if τ.one then τ.zero.bind λz=>z.head?.map .v else none
def jG(P:Program)(T:Nat->AV):Op->Option (Ob × (Nat->AV))
 | .alloc t=>if(zQ P t).ok then(zQ P t).zero.map λz=>(.box t (z.map .v),λi=> .ptr i 0) else none
 | .box t x=>(ev T x).cells.map λcs=>(.box t cs,λi=> .ptr i 0)
 | .buildSlice t n a=>match (zQ P t).kind with
   | .slice e=>if(zQ P e).ok/\0<(zQ P e).sz/\n*(zQ P e).sz<=16777216/\(zQ P e).zero.isSome then
     (yR (Zz (zQ P e).sz) (xta (n*(zQ P e).sz)) (evs T a.toList)).map λcs=>(.row e (zQ P e).sz (Jw (zQ P e).sz n cs) 0,λi=> .tl i 0) else none
   | _=>none
 | .makeSlice t l c=>match (zQ P t).kind,ev T l,ev T c with
   | .slice e,.v (.int _ n),.v (.int _ m)=>if n=m/\0<=n/\n*((zQ P e).bytes+1)<=140737488355328/\(zQ P e).ok/\0<(zQ P e).sz/\((zQ P e).zero.map List.length)=some (zQ P e).sz then
     (zQ P e).zero.map λz=>(.row e (zQ P e).sz (List.replicate n.toNat (z.map .v)) 0,λi=> .tl i 0) else none
   | _,_,_=>none
 | .makeMap t none=>match (zQ P t).kind with
   | .mapk _ _=>some (.mapo [],λi=> .mp i)
   | _=>none
 | _=>none
def vn:AV × AV->Int
 | (.v (.int _ m),_)=>m
 | _=>0
def vG(kk:IntKind):List (AV × AV)->Bool
 | []=>true
 | (.v (.int k _),_)::r=>k==kk && vG kk r
 | _=>false
def xk(kk:IntKind)(n:Int)(v:AV):List (AV × AV)->List (AV × AV)
 | []=>[(.v (.int kk n),v)]
 | p::r=>if n<vn p then(.v (.int kk n),v)::p::r else p::xk kk n v r
def kV(n:Int):List (AV × AV)->Bool
 | []=>false
 | p::r=>vn p==n || kV n r
def xD(kk:IntKind)(n:Int)(v:AV):List (AV × AV)->List (AV × AV)
 | []=>[]
 | p::r=>(if vn p=n then(.v (.int kk n),v) else p)::xD kk n v r
def JD(kk:IntKind)(n:Int)(v:AV)(es:List (AV × AV)):Option (List (AV × AV)):=
 if vG kk es then some (if kV n es then xD kk n v es else xk kk n v es) else none
def Jy(n:Int)(z:AV):List (AV × AV)->AV × Bool
 | []=>(z,false)
 | p::r=>(if vn p=n then p.2 else(Jy n z r).1,vn p==n || (Jy n z r).2)
def xya(kk:IntKind)(n:Int)(z:AV)(es:List (AV × AV)):Option (AV × Bool):=if vG kk es then some (Jy n z es) else none
def Z3(T:Nat->AV)(d:Int):Option Operand->Option Int
 | none=>some d
 | some x=>match ev T x with
   | .v (.int _ n)=>some n
   | _=>none
def qh(P:Program)(T:Nat->AV)(h:List Ob):Op->Option (AV × List Ob)
 | .move x=>some (ev T x,h)
 | .assign x=>some (ev T x,h)
 | .pick c a b=>match ev T c with
   | .v (.bool t)=>some (if t then ev T a else ev T b,h)
   | _=>none
 | .alloc t=>(jG P T (.alloc t)).map λq=>(q.2 h.length,h++[q.1])
 | .box t x=>(jG P T (.box t x)).map λq=>(q.2 h.length,h++[q.1])
 | .buildSlice t n j=>(jG P T (.buildSlice t n j)).map λq=>(q.2 h.length,h++[q.1])
 | .makeSlice t l c=>(jG P T (.makeSlice t l c)).map λq=>(q.2 h.length,h++[q.1])
 | .makeMap t r=>(jG P T (.makeMap t r)).map λq=>(q.2 h.length,h++[q.1])
 | .build t j=>match (zQ P t).kind with
   | .struct g=>if g.all (λf=>(zQ P f.2).ok) then(zQ P t).zero.bind λz=>(yR (X7 P g) (z.map .v) (evs T j.toList)).map λcs=>(.ag cs,h) else none
   | .arr _ e=>if(zQ P e).ok then(zQ P t).zero.bind λz=>(yR (Zz (zQ P e).sz) (z.map .v) (evs T j.toList)).map λcs=>(.ag cs,h) else none
   | _=>none
 | .load t a=>(Jx h (zQ P t) (ev T a)).map (·,h)
 | .store t a x=>if(zQ P t).ok then(ev T x).cells.bind λns=>if ns.length=(zQ P t).sz then(ZA h ns (ev T a)).map λh'=>(.v undef,h') else none else none
 | .nilCheck x=>match ev T x with
   | .ptr id off=>some (.ptr id off,h)
   | .ep a e i k=>some (.ep a e i k,h)
   | .fn (.func f) a b=>some (.fn (.func f) a b,h)
   | _=>none
 | .binOp op t x y _=>(if Xr y then xxa P h op t (ev T x) else Jna P op t (ev T x) (ev T y)).map (·,h)
 | .unOp op _ x=>match op,ev T x with
   | .neg,.v (.int k n)=>some (.v (.int k (k.wrap (0 - n))),h)
   | .not,.v (.bool b)=>some (.v (.bool (!b)),h)
   | _,_=>none
 | .convert s d x=>match (zQ P s).ok,(zQ P d).kind,ev T x with
   | true,.int k,.v (.int _ n)=>some (.v (.int k (k.wrap n)),h)
   | true,.str,.sl 1 rows=>(Joa P s rows).map (·,h)
   | _,_,_=>none
 | .makeFunc f a b=>some (.fn f (evl T a.toList) (evl T b.toList),h)
 | .fieldAddr t x i=>match (zQ P t).kind with
   | .struct g=>g[i]?.bind λf=>if(zQ P f.2).ok/\0<(zQ P f.2).sz then(match ev T x with
     | .ptr id off=>some (.ptr id (off+f.1),h)
     | .ep a e i k=>some (.ep a e i (k+f.1),h)
     | _=>none) else none
   | _=>none
 | .field t x i=>match (zQ P t).kind,ev T x with
   | .struct g,.ag cs=>g[i]?.bind λf=>if(zQ P f.2).ok then(part cs f.1 (zQ P f.2).agg (zQ P f.2).sz).map (·,h) else none
   | _,_=>none
 | .indexAddr t x i=>match (zQ P t).kind,ev T i with
   | .slice e,.v (.int _ n)=>if(zQ P e).ok/\0<(zQ P e).sz/\eOf h (ev T x)=some (zQ P e).sz then(vAa h n (ev T x)).map (·,h) else none
   | .arr m e,.v (.int _ n)=>if(zQ P e).ok/\0<=n/\n<m then(match ev T x with
     | .ptr id off=>some (.ptr id (off+n.toNat*(zQ P e).sz),h)
     | .ep a w i k=>some (.ep a w i (k+n.toNat*(zQ P e).sz),h)
     | _=>none) else none
   | _,_=>none
 | .index t x i=>match (zQ P t).kind,ev T x,ev T i with
   | .arr m e,.ag cs,.v (.int _ n)=>if(zQ P e).ok/\0<=n/\n<m then(part cs (n.toNat*(zQ P e).sz) (zQ P e).agg (zQ P e).sz).map (·,h) else none
   | _,_,_=>none
 | .slice t x lo hi none=>match (zQ P t).kind with
   | .slice e=>(qa h (ev T x)).bind λxs=>(Z3 T 0 lo).bind λl=>(Z3 T xs.length hi).bind λm=>
     if(zQ P e).ok/\0<=l/\l<=m/\m<=xs.length/\(l=m∨(0<(zQ P e).sz/\eOf h (ev T x)=some (zQ P e).sz)) then some (.vw (ev T x) (zQ P e).sz l.toNat (m.toNat - l.toNat),h) else none
   | _=>none
 | .insert t m k v=>match (zQ P t).kind,ev T m,ev T k with
   | .mapk o _,.mp id,.v (.int kk n)=>match (zQ P o).kind,h[id]? with
     | .int kk',some (.mapo es)=>if kk'=kk then(JD kk n (ev T v) es).map λes'=>(.v undef,h.set id (.mapo es')) else none
     | _,_=>none
   | _,_,_=>none
 | .lookup t m k ok=>match (zQ P t).kind,ev T m,ev T k with
   | .mapk o u,.mp id,.v (.int kk n)=>match (zQ P o).kind,h[id]?,yka (zQ P u) with
     | .int kk',some (.mapo es),some z=>if kk'=kk then(xya kk n z es).map λp=>(if ok then .tup [p.1,.v (.bool p.2)] else p.1,h) else none
     | _,_,_=>none
   | _,_,_=>none
 | .extract x i=>match ev T x with
   | .tup cs=>if i<cs.length then some (nth cs i,h) else none
   | _=>none
 | .call c=>Qu P T h c
 | _=>none
section
variable {c:Ctx}
theorem xza:∀(vs:List Value),ARs c (xta vs.length) vs
 | []=>rfl
 | v::r=>⟨v,r,rfl,trivial,xza r⟩
theorem xAa(off:Nat):∀(us:List Value) (k:Nat) (cells:Array Value),off+k+us.length<=cells.size->
  ((us.zipIdx k).foldl (λcs (p:Value × Nat)=>cs.setIfInBounds (off+p.2) p.1) cells).toList=cells.toList.take (off+k)++us++cells.toList.drop (off+k+us.length)
 | [],k,cells,_=>by simp
 | u::us,k,cells,h=>by
   have h:off+k+(us.length+1)<=cells.size:=by simpa using h
   rw[List.zipIdx_cons,List.foldl_cons,xAa off us (k+1) _ (by simp;omega)]
   apply qX
   intro j
   simp only[Array.toList_setIfInBounds,List.getElem?_append,zJ,zN,qF,zf,List.length_cons]
   by_cases a:j<off+k
   ·simp[a,show j<off+(k+1) by omega,show min (off+(k+1)) cells.size=off+(k+1) by omega,show min (off+k) cells.size=off+k by omega,show j<off+(k+1)+us.length by omega,show j<off+k+(us.length+1) by omega,show off+k≠j by omega]
   ·by_cases c:j=off+k
    ·subst c
     simp[show min (off+(k+1)) cells.size=off+(k+1) by omega,show min (off+k) cells.size=off+k by omega,show off+k<off+(k+1) by omega,show off+k<off+(k+1)+us.length by omega,show off+k<cells.size by omega]
    ·by_cases b:j<off+k+(us.length+1)
     ·simp[a,b,show ¬ j<off+(k+1) by omega,show min (off+(k+1)) cells.size=off+(k+1) by omega,show min (off+k) cells.size=off+k by omega,show j<off+(k+1)+us.length by omega,show j - (off+k)=(j - (off+(k+1)))+1 by omega]
     ·simp[a,b,show ¬ j<off+(k+1)+us.length by omega,show min (off+(k+1)) cells.size=off+(k+1) by omega,show min (off+k) cells.size=off+k by omega]
      rw[zc (by omega)]
      rw[show off+(k+1)+us.length+(j - (off+(k+1)+us.length))=j by omega,show off+k+(us.length+1)+(j - (off+k+(us.length+1)))=j by omega]
      simp
def YWa(c:Ctx):List (Nat × AV)->List (Nat × Value)->Prop
 | [],b=>b=[]
 | (i,a)::r,b=>∃v q,b=(i,v)::q/\AR c a v/\YWa c r q
theorem KN(place:Nat->Option (Nat × Nat)):∀(p:List (Nat × AV)) (d:List (Nat × Value)) (aZ rs:List AV) (cells:Array Value),YWa c p d->ARs c aZ cells.toList->yR place aZ p=some rs->
  ∃b,Instr.fill place cells d=some b/\ARs c rs b.toList
 | [],d,aZ,rs,cells,k,f,h=>by
   have k:d=[]:=k
   subst k
   injection h with h
   subst h
   exact⟨cells,rfl,f⟩
 | (i,a)::r,d,aZ,rs,cells,⟨v,q,y,D,w⟩,f,h=>by
   subst y
   simp only[yR] at h
   split at h
   ·rename_i off size cs e j
    split at h
    ·rename_i s
     cases l:lay aZ off cs with
     | none=>rw[l] at h;cases h
     | some m=>
       rw[l] at h
       obtain⟨o,E⟩:=Yh j D
       have n:v.cells.size=size:=by
        have:=wA o
        simp at this
        omega
       obtain⟨C,u⟩:=KL f off o l
       have t:off+v.cells.size<=cells.size:=by simpa using u
       have B:=xAa off v.cells.toList 0 cells (by simpa using t)
       have g:(v.cells.zipIdx.foldl (λcs (x:Value × Nat)=>cs.setIfInBounds (off+x.2) x.1) cells).toList=cells.toList.take off++v.cells.toList++cells.toList.drop (off+v.cells.toList.length):=by
        rw[<-Array.foldl_toList,Array.toList_zipIdx]
        simpa using B
       obtain⟨b,z,A⟩:=KN place r q m rs (v.cells.zipIdx.foldl (λcs (x:Value × Nat)=>cs.setIfInBounds (off+x.2) x.1) cells) w (by rw[g];exact C) h
       refine⟨b,?_,A⟩
       simp only[Instr.fill,e,n]
       rw[if_neg (by simp;omega)]
       exact z
    ·cases h
   ·cases h
theorem XW(e:Nat):∀(n:Nat) (l:List AV),l.length=n*e->(Jw e n l).flatten=l/\(∀x∈Jw e n l,x.length=e)/\(Jw e n l).length=n
 | 0,l,h=>by
   have:l=[]:=zF (by simpa using h)
   subst this
   simp[Jw]
 | n+1,l,h=>by
   rw[Nat.succ_mul] at h
   obtain⟨c,b,d⟩:=XW e n (l.drop e) (by simp;omega)
   refine⟨by simp[Jw,c],λx a=>?_,by simp[Jw,d]⟩
   simp only[Jw,zx] at a
   rcases a with rfl|a
   ·simp;omega
   ·exact b x a
end
section
variable {B:Nat} {w:World} {g:Gh} {h h':List Ob} {P:Program} {T:Nat->AV} {a:Act} {x:AV}
def Did(P:Program)(s:Sem Next)(B:Nat)(w:World)(g:Gh)(h:List Ob)(x:AV)(h':List Ob):Prop:=
 ∃a v w' g',s.run P w= .ok a w'/\(a= .value v∨(a= .skip/\v=undef))/\Good B w g h w' g' h'/\AR (ctx w' g' h') x v
def DidV(P:Program)(s:Sem Value)(B:Nat)(w:World)(g:Gh)(h:List Ob)(x:AV)(h':List Ob):Prop:=
 ∃v w' g',s.run P w= .ok v w'/\Good B w g h w' g' h'/\AR (ctx w' g' h') x v
theorem DidV.did{s:Sem Value}(d:DidV P s B w g h x h'):Did P (do pure (.value (<-s))) B w g h x h':=by
 obtain⟨v,w',g',b,a,c⟩:=d
 exact⟨.value v,v,w',g',by simp[b],.inl rfl,a,c⟩
theorem jM{s:Sem Value}{v:Value}(c:HOk B w g h)(hB:B<=w.heap.size)(b:s.run P w= .ok v w)(a:AR (ctx w g h) x v):DidV P s B w g h x h:=
 ⟨v,w,g,b,Good.refl c hB,a⟩
def wU(c:Ctx)(T:Nat->AV)(a:Act):Prop:=∀i,AR c (T i) (a.tmps.getD i undef)
theorem jV{c:Ctx}(b:wU c T a):∀(x:Operand),AR c (ev T x) (a.eval x)
 | .tmp i=>b i
 | .const x=>Yg x
 | .func f=>⟨#[], #[],rfl,rfl,rfl⟩
 | .global _=>trivial
theorem Zm{c:Ctx}(b:wU c T a){x:Operand}{u:Value}(e:ev T x= .v u):a.eval x=u:=by
 have:=jV b x;rw[e] at this;exact this
theorem X9{c:Ctx}(b:wU c T a):∀(l:List Operand),ARs c (evl T l) (l.map a.eval)
 | []=>rfl
 | x::r=>⟨_,_,rfl,jV b x,X9 b r⟩
theorem W0{c:Ctx}(b:wU c T a):∀(l:List (Nat × Operand)),YWa c (evs T l) (l.map λ(i,x)=>(i,a.eval x))
 | []=>rfl
 | (i,x)::r=>⟨_,_,rfl,jV b x,W0 b r⟩
theorem jya{t:TypeId}{z:List Value}(h:(zQ P t).zero=some z):(zQ P t).ok=true:=by
 unfold zQ at h⊢
 split at h
 ·rfl
 ·cases h
theorem jB{t:TypeId}{k:K}(h:(zQ P t).kind=k)(a:k≠ .other):(zQ P t).ok=true:=by
 unfold zQ at h⊢
 split at h
 ·rfl
 ·exact absurd h.symm a
theorem Yl{t:TypeId}{i:TypeInfo}{z:Value}(hi:P.info? t=some i)(a:i.zero=some z):(zeroValue t).run P w= .ok z w:=by simp[zeroValue,typeInfo,hi,a]
inductive Made (B:Nat) (w:World) (g:Gh) (h:List Ob) (w':World) (v:Value):Ob->(Nat->AV)->Prop where
 | box (ty:TypeId) (cs:List AV) (vs:Array Value) (hw:w'=w.alloc (.cells vs ty)) (hv:v= .pointer (some ⟨w.heap.size,0,none⟩)) (hn:ARs (ctx w g h) cs vs.toList):Made B w g h w' v (.box ty cs) λi=> .ptr i 0
 | row (ty e:Nat) (xs:List (List AV)) (cells:List Value) (he:0<e) (hx:∀x∈xs,x.length=e) (hb:Below w.heap.size w w') (hown:w'.ownsRow B ty e v xs.length cells) (hn:ARs (ctx w g h) xs.flatten cells)
   (hbl:∀b,v.ownBlock=some b->w.heap.size<=b):Made B w g h w' v (.row ty e xs 0) λi=> .tl i 0
 | map (hw:w'=w.alloc (.map #[] 0)) (hv:v= .map (some w.heap.size)):Made B w g h w' v (.mapo []) λi=> .mp i
theorem Made.more{w':World}{v:Value}{o:Ob}{mk:Nat->AV}(m:Made B w g h w' v o mk)(d:HOk B w g h)(hB:B<=w.heap.size):∃g',Good B w g h w' g' (h++[o])/\AR (ctx w' g' (h++[o])) (mk h.length) v:=by
 cases m with
 | box ty cs vs b c i=>subst b c;exact⟨_,Jla d hB i⟩
 | row ty e xs cells l j k a i f=>exact⟨_,JO d hB l j 0 k a i f⟩
 | map b c=>subst b c;exact⟨_,Jma d hB⟩
theorem Made.at{w':World}{v:Value}{o:Ob}{mk:Nat->AV}(m:Made B w g h w' v o mk)(d:HOk B w g h)(hB:B<=w.heap.size){i:Nat}(hi:h[i]? =some .res):∃g',Good B w g h w' g' (h.set i o)/\AR (ctx w' g' (h.set i o)) (mk i) v:=by
 cases m with
 | box ty cs vs b c j=>subst b c;exact⟨_,YSa d hB hi j⟩
 | row ty e xs cells n k l a j f=>exact⟨_,YTa d hB hi n k 0 l a j f⟩
 | map b c=>subst b c;exact⟨_,YUa d hB hi⟩
theorem Made.live{w':World}{v:Value}{o:Ob}{mk:Nat->AV}(m:Made B w g h w' v o mk):o.isRes=false:=by cases m<;>rfl
theorem Zsa(j:HOk B w g h){t:TypeId}{z:List Value}(f:(zQ P t).ok=true)(a:(zQ P t).zero=some z):
  ∃v w',(Instr.alloc t true (.tuple #[])).run P w= .ok v w'/\Made B w g h w' v (.box t (z.map .v)) (λi=> .ptr i 0):=by
 obtain⟨d,i,k,hi,e⟩:=jy f
 rw[e] at a
 cases b:i.zero with
 | none=>rw[b] at a;cases a
 | some c=>
   rw[b] at a
   injection a with a
   subst a
   exact⟨_,_,by simp[Instr.alloc,Yl hi b,newVar,newRow],.box t _ c.cells rfl rfl (JM _)⟩
theorem Vfa(c:HOk B w g h){t:TypeId}{y:AV}{v:Value}{cs:List AV}(a:AR (ctx w g h) y v)(b:y.cells=some cs):
  ∃u w',(Instr.box t v).run P w= .ok u w'/\Made B w g h w' u (.box t cs) (λi=> .ptr i 0):=
 ⟨_,_,by simp[Instr.box,newVar,newRow],.box t _ v.cells rfl rfl (Yh b a).1⟩
theorem qra:∀(a:List Field),(a.all λf=>(zQ P f.type).ok)=true->a.mapM (λf=>(P.info? f.type).map λi=>(f.offset,i.size))=some (a.map λf=>(f.offset,(zQ P f.type).sz))
 | [],_=>rfl
 | f::a,h=>by
   rw[List.all_cons,zq] at h
   obtain⟨d,i,b,hi,e⟩:=jy h.1
   simp[List.mapM_cons,hi,qra a h.2,e]
theorem Zta(s:HOk B w g h)(hB:B<=w.heap.size)(F:wU (ctx w g h) T a){t:TypeId}{p:Array (Nat × Operand)}{n:List (Nat × TypeId)}{z:List Value}{cs:List AV}
  (m:(zQ P t).kind= .struct n) (r:n.all (λf=>(zQ P f.2).ok)=true) (k:(zQ P t).zero=some z) (u:yR (X7 P n) (z.map .v) (evs T p.toList)=some cs):
  DidV P (Instr.build t (p.map λ(i,x)=>(i,a.eval x))) B w g h (.ag cs) h:=by
 have D:=jya k
 obtain⟨d,i,C,hi,e⟩:=jy D
 rw[e] at k m
 cases d<;>try (cases m;done)
 rename_i fields
 injection m with m
 cases l:i.zero with
 | none=>rw[l] at k;cases k
 | some A=>
   rw[l] at k
   injection k with k
   subst k
   have o:(fields.toList.all λf=>(zQ P f.type).ok)=true:=by rw[<-m,List.all_map] at r;exact r
   have q:=qra (P:=P) fields.toList o
   obtain⟨b,E,y⟩:=KN (c:=ctx w g h) (X7 P n) (evs T p.toList) (p.toList.map λ(i,x)=>(i,a.eval x)) _ cs A.cells (W0 F _) (JM _) u
   refine jM s hB (v:= .agg b) (run_build w t _ b ?_) ⟨b,rfl,y⟩
   unfold Program.built
   simp only[hi,C,l,q]
   have:(λx=>(fields.toList.map λf=>(f.offset,(zQ P f.type).sz)).toArray[x]?)=X7 P n:=by
    funext j
    rw[<-m]
    simp[X7,Option.map_map,Function.comp_def]
   rw[this]
   simpa using E
theorem z9a(G:HOk B w g h)(hB:B<=w.heap.size)(F:wU (ctx w g h) T a){t e:TypeId}{m:Nat}{l:Array (Nat × Operand)}{z:List Value}{cs:List AV}
  (r:(zQ P t).kind= .arr m e) (H:(zQ P e).ok=true) (f:(zQ P t).zero=some z) (J:yR (Zz (zQ P e).sz) (z.map .v) (evs T l.toList)=some cs):
  DidV P (Instr.build t (l.map λ(i,x)=>(i,a.eval x))) B w g h (.ag cs) h:=by
 have y:=jya f
 obtain⟨d,i,E,hi,u⟩:=jy y
 rw[u] at f r
 cases d<;>try (cases r;done)
 rename_i n k
 injection r with hk1 hk2
 subst hk2
 obtain⟨K,s,I,q,o⟩:=jy H
 cases j:i.zero with
 | none=>rw[j] at f;cases f
 | some D=>
   rw[j] at f
   injection f with f
   subst f
   obtain⟨b,A,C⟩:=KN (c:=ctx w g h) (Zz (zQ P k).sz) (evs T l.toList) (l.toList.map λ(i,x)=>(i,a.eval x)) _ cs D.cells (W0 F _) (JM _) J
   refine jM G hB (v:= .agg b) (run_build w t _ b ?_) ⟨b,rfl,C⟩
   unfold Program.built
   simp only[hi,E,j,q]
   have p:s.size=(zQ P k).sz:=by rw[o]
   rw[p]
   have:(λi=>some (i*(zQ P k).sz,(zQ P k).sz))=Zz (zQ P k).sz:=rfl
   rw[this]
   simpa using A
theorem vBa(hh:HOk B w g h)(hB:B<=w.heap.size)(hT:wU (ctx w g h) T a){t e:TypeId}{n:Nat}{r:Array (Nat × Operand)}{cs:List AV}
  (u:(zQ P t).kind= .slice e) (Z:(zQ P e).ok=true) (h0:0<(zQ P e).sz) (hn:n*(zQ P e).sz<=16777216) (G:(zQ P e).zero.isSome=true)
  (M:yR (Zz (zQ P e).sz) (xta (n*(zQ P e).sz)) (evs T r.toList)=some cs):
  ∃v w',(Instr.buildSlice t n (r.map λ(i,x)=>(i,a.eval x))).run P w= .ok v w'/\Made B w g h w' v (.row e (zQ P e).sz (Jw (zQ P e).sz n cs) 0) (λi=> .tl i 0):=by
 have Y:=jB u (by simp)
 obtain⟨d,i,S,hi,eq⟩:=jy Y
 rw[eq] at u
 cases d<;>try (cases u;done)
 injection u with u
 subst u
 rename_i e
 obtain⟨d',o,β,I,E⟩:=jy Z
 have H:(zQ P e).sz=o.size:=by rw[E]
 rw[H] at h0 hn M⊢
 cases C:o.zero with
 | none=>rw[E] at G;simp[C] at G
 | some z=>
   obtain⟨k,Q,R⟩:=KN (c:=ctx w g h) (Zz o.size) (evs T r.toList) (r.toList.map λ(i,x)=>(i,a.eval x)) _ cs ((Array.range (n*o.size)).map (z.cells[· % z.cells.size]!)) (W0 hT _)
    (by have:=xza (c:=ctx w g h) ((Array.range (n*o.size)).map (z.cells[· % z.cells.size]!)).toList;simpa using this) M
   have N:cs.length=n*o.size:=by
    have key:∀(l:List (Nat × AV)) (aZ rs:List AV),yR (Zz o.size) aZ l=some rs->rs.length=aZ.length:=by
     intro l
     induction l with
     | nil=>intro aZ rs h;injection h with h;rw[h]
     | cons p l L=>
       intro aZ rs h
       obtain⟨j,y⟩:=p
       simp only[yR] at h
       split at h
       ·split at h
        ·rename_i off size us hp hy hl
         cases q:lay aZ off us with
         | none=>rw[q] at h;cases h
         | some ζ=>rw[q] at h;rw[L _ _ h,WY q]
        ·cases h
       ·cases h
    have J:∀m,(xta m).length=m:=λm=>by induction m with|zero=>rfl|succ m L=>simp[xta,L]
    rw[key _ _ _ M,J]
   obtain⟨W,c2,c3⟩:=XW o.size n cs N
   have s:k.size=n*o.size:=by have:=wA R;simp at this;omega
   have F:(Instr.buildSlice t n (r.map λ(i,x)=>(i,a.eval x))).run P w= .ok (.slice (some ⟨w.heap.size,0,none⟩) n n) (w.alloc (.cells k e)):=by
    by_cases A:n*o.size=0
    ·have K:n=0:=by
      rcases Nat.mul_eq_zero.1 A with h|h
      ·exact h
      ·omega
     subst K
     have e0:((Array.range 0).map (z.cells[· % z.cells.size]!))= #[]:=by simp
     have U:Instr.fill (λi=>some (i*o.size,o.size)) #[] (r.map λ(i,x)=>(i,a.eval x)).toList=some k:=by
      have:=Q
      rw[Nat.zero_mul,e0] at this
      rw[Array.toList_map]
      exact this
     generalize (r.map λ(i,x)=>(i,a.eval x))=qs at U
     have X:∀f:Nat->Value,(Array.range 0).map f= #[]:=λf=>by simp[Array.range]
     simp[Instr.buildSlice,run_underlying S,sizeOf,typeInfo,I,X,U,newRow]
    ·exact run_buildSlice w t e n _ k o z S I C (by omega) A (by rw[Array.toList_map];exact Q)
   have V:n<=maxLen:=by
    have:n<=n*o.size:=Nat.le_mul_of_pos_right n h0
    simp only[maxLen]
    omega
   have O:k.toList.take (n*o.size)=k.toList:=List.take_of_length_le (by simp[s])
   have D:(w.alloc (.cells k e)).ownsRow B e o.size (.slice (some ⟨w.heap.size,0,none⟩) n n) (Jw o.size n cs).length k.toList:=by
    rw[c3]
    exact⟨by simpa using s,.inr ⟨w.heap.size,n,k,rfl,hB,heap_alloc_new w _,zo _,V,s,O⟩⟩
   exact⟨_,_,F,.row e o.size _ _ h0 c2 ((Below.refl _ w).alloc (zo _) _) D (by rw[W];exact R) (λb J=>by simp[Value.ownBlock] at J;omega)⟩
theorem XX(z:Array Value)(n:Nat):(madeCells z (n*z.size)).toList=(List.replicate n z.toList).flatten:=by
 by_cases o:z.size=0
 ·have d:z= #[]:=Array.eq_empty_of_size_eq_zero o
  subst d
  have:(List.replicate n ([]:List Value)).flatten=[]:=by rw[List.flatten_eq_nil_iff];intro l c;exact List.eq_of_mem_replicate c
  simp[madeCells,this,Array.range_zero']
 ·have h:∀x∈List.replicate n z.toList,x.length=z.size:=λx b=>by rw[List.eq_of_mem_replicate b];simp
  have c:(List.replicate n z.toList).flatten.length=n*z.size:=by
   have:∀m,(List.replicate m z.toList).flatten.length=m*z.size:=λm=>by
    induction m with
    | zero=>simp
    | succ m p=>rw[List.replicate_succ,List.flatten_cons,zf,p,Nat.succ_mul];simp;omega
   exact this n
  apply qX
  intro j
  by_cases f:j<n*z.size
  ·have e:j % z.size<z.size:=Nat.mod_lt _ (by omega)
   have q:j / z.size<n:=by rw[Nat.div_lt_iff_lt_mul (by omega)];exact f
   have u:(List.replicate n z.toList)[j / z.size]? =some z.toList:=by rw[List.getElem?_replicate,if_pos q]
   have t:z.toList[j % z.size]? =some z[j % z.size]:=by simp[e]
   have key:∀ {xs:List (List Value)},(∀x∈xs,x.length=z.size)->∀ {i k:Nat} {r:List Value} {a:Value},xs[i]? =some r->r[k]? =some a->xs.flatten[i*z.size+k]? =some a:=λb _ _ _ _ hi s=>Z2 b hi s
   have g:=key h u t
   rw[show j / z.size*z.size+j % z.size=j by rw[Nat.mul_comm];exact Nat.div_add_mod j z.size] at g
   rw[g]
   simp[madeCells,f,e]
  ·rw[qB (by simp[madeCells];omega),qB (by rw[c];omega)]
theorem vCa(S:HOk B w g h)(hB:B<=w.heap.size){t e:TypeId}{k1 k2:IntKind}{n:Int}{z:List Value}
  (j:(zQ P t).kind= .slice e) (O:0<=n) (r:n*((zQ P e).bytes+1)<=140737488355328) (M:(zQ P e).ok=true) (h0:0<(zQ P e).sz) (s:(zQ P e).zero=some z) (E:z.length=(zQ P e).sz):
  ∃v w',(Instr.makeSlice t (.int k1 n) (.int k2 n)).run P w= .ok v w'/\Made B w g h w' v (.row e (zQ P e).sz (List.replicate n.toNat (z.map .v)) 0) (λi=> .tl i 0):=by
 obtain⟨d,it,H,L,eq⟩:=jy (jB j (by simp))
 rw[eq] at j
 cases d<;>try (cases j;done)
 injection j with j
 subst j
 rename_i e
 obtain⟨T,i,N,hi,f⟩:=jy M
 have C:(zQ P e).sz=i.size:=by rw[f]
 have D:(zQ P e).bytes=i.bytes:=by rw[f]
 rw[C] at h0 E⊢
 rw[D] at r
 cases a:i.zero with
 | none=>rw[f] at s;simp[a] at s
 | some o=>
   have q:o.cells.toList=z:=by rw[f] at s;simpa [a] using s
   obtain⟨m,rfl⟩:=Int.eq_ofNat_of_zero_le O
   have y:m*(i.bytes+1)<=140737488355328:=by
    have:((m*(i.bytes+1):Nat):Int)<=140737488355328:=by simpa using r
    omega
   rw[Nat.mul_add,Nat.mul_one,Nat.mul_comm] at y
   have l:o.cells.size=i.size:=by rw[<-E, <-q];simp
   obtain⟨w',I,Q,p⟩:=run_make_full (P:=P) w B t e i o i.size H hi a rfl k1 k2 m (by omega) (by simp only[maxLen];omega) hB
   obtain⟨G,F,K,_⟩:=run_make_full (P:=P) w w.heap.size t e i o i.size H hi a rfl k1 k2 m (by omega) (by simp only[maxLen];omega) (zo _)
   have u:G=w':=by rw[I] at F;injection F with _ h;exact h.symm
   subst u
   refine⟨_,G,I,?_⟩
   have c:(madeCells o.cells (m*i.size)).toList=(List.replicate m z).flatten:=by rw[<-l,XX,q]
   have A:(List.replicate m (z.map AV.v)).flatten=(List.replicate m z).flatten.map AV.v:=by
    induction m with
    | zero=>simp
    | succ m R=>simp[List.replicate_succ]
   simp only[Int.toNat_natCast,Int.ofNat_eq_natCast]
   refine .row e i.size _ (madeCells o.cells (m*i.size)).toList h0 (λx J=>by rw[List.eq_of_mem_replicate J];simp[E]) ⟨p.os,p.tape,p.output,p.size,λk j=>p.block k j (by simp)⟩ (by simpa using Q) ?_ (λb r=>(World.ownsRow.lt K b r).1)
   rw[A,c]
   exact JM _
theorem Ym(p:HOk B w g h)(hB:B<=w.heap.size)(q:wU (ctx w g h) T a){op:Op}{o:Ob}{mk:Nat->AV}(b:jG P T op=some (o,mk))(dst:Option Tmp)(type:TypeId)(pos:String)(after:Array Edge)(guard:Option (Nat × Bool)):
  ∃v w',(execOp a.eval ⟨dst,op,type,pos,after,guard⟩).run P w= .ok (.value v) w'/\Made B w g h w' v o mk:=by
 unfold jG at b
 split at b
 ·rename_i t
  split at b
  ·rename_i F
   cases f:(zQ P t).zero with
   | none=>rw[f] at b;cases b
   | some z=>
     rw[f] at b
     injection b with b;injection b with hx1 hx2;subst hx1 hx2
     obtain⟨v,w',j,i⟩:=Zsa (P:=P) p F f
     exact⟨v,w',by simp[execOp,j],i⟩
  ·cases b
 ·rename_i t y
  cases d:(ev T y).cells with
  | none=>rw[d] at b;cases b
  | some cs=>
    rw[d] at b
    injection b with b;injection b with hx1 hx2;subst hx1 hx2
    obtain⟨v,w',j,i⟩:=Vfa (P:=P) (t:=t) p (jV q y) d
    exact⟨v,w',by simp[execOp,j],i⟩
 ·rename_i t n G
  split at b
  ·rename_i e r
   split at b
   ·rename_i k
    cases d:yR (Zz (zQ P e).sz) (xta (n*(zQ P e).sz)) (evs T G.toList) with
    | none=>rw[d] at b;cases b
    | some cs=>
      rw[d] at b
      injection b with b;injection b with hx1 hx2;subst hx1 hx2
      obtain⟨v,w',j,i⟩:=vBa p hB q r k.1 k.2.1 k.2.2.1 k.2.2.2 d
      exact⟨v,w',by simp[execOp,j],i⟩
   ·cases b
  ·cases b
 ·rename_i t l c
  split at b
  ·rename_i e k1 n k2 m r x d
   split at b
   ·rename_i k
    obtain⟨D,A,u,s,f5,f6⟩:=k
    subst D
    cases f:(zQ P e).zero with
    | none=>rw[f] at b;cases b
    | some z=>
      rw[f] at b f6
      injection b with b;injection b with hx1 hx2;subst hx1 hx2
      have j:=Zm q x
      have i:=Zm q d
      obtain⟨v,w',C,E⟩:=vCa (P:=P) (k1:=k1) (k2:=k2) p hB r A u s f5 f (by simpa using f6)
      exact⟨v,w',by simp[execOp,j,i,C],E⟩
   ·cases b
  ·cases b
 ·rename_i t
  split at b
  ·injection b with b;injection b with hx1 hx2;subst hx1 hx2
   exact⟨.map (some w.heap.size),w.alloc (.map #[] 0),by simp[execOp,Instr.makeMap,newObj];rfl,.map rfl rfl⟩
  ·cases b
 ·cases b
end
section
variable {B:Nat} {w:World} {g:Gh} {h h':List Ob} {P:Program} {x:AV}
theorem yla(f:HOk B w g h){a:AV}{e i k:Nat}{u:Value}(q:AR (ctx w g h) (.ep a e i k) u){xs:List (List AV)}(o:eOf h a=some e)(j:qa h a=some xs):
  ∃A b,AR (ctx w g h) a (.slice (some A) xs.length b)/\RowsAt w (ctx w g h) e xs (some A)/\i<xs.length/\u= .pointer (some (A.add (i*e+k))):=by
 obtain⟨A,m,b,c,n,l⟩:=q
 obtain⟨r,k',p,s,d,_⟩:=wB f _ c j
 injection p with e4 e5 e6
 subst e5 e6
 have:=d e o
 rw[<-e4] at this
 exact⟨A,b,c,this,n,l⟩
theorem xBa(f:HOk B w g h)(hB:B<=w.heap.size){t:TypeId}{p:AV}{u:Value}(o:AR (ctx w g h) p u)(c:Jx h (zQ P t) p=some x):DidV P (Instr.loadAt t u) B w g h x h:=by
 cases p with
 | ptr id off=>
   simp only[Jx] at c
   split at c
   ·rename_i ty cs D
    split at c
    ·rename_i z
     obtain⟨v,n,m⟩:=VC (P:=P) z (Yi f D) c
     obtain⟨_,e⟩:=o
     subst e
     refine jM f hB (v:=v) ?_ m
     rw[Addr.add_lit,Nat.zero_add] at n
     simpa [Instr.loadAt,Instr.sureAddr,ctx] using n
    ·cases c
   ·cases c
 | ep a e i k=>
   simp only[Jx] at c
   split at c
   ·rename_i q
    cases j:qa h a with
    | none=>rw[j] at c;cases c
    | some xs=>
      rw[j] at c
      simp only[Option.bind_some] at c
      cases hi:xs[i]? with
      | none=>rw[hi] at c;cases c
      | some r=>
        rw[hi] at c
        obtain⟨A,I,_,m,J,y⟩:=yla f o q.2 j
        subst y
        have d:PartAt w (ctx w g h) (A.add (i*e)) r:=λk b G=>by
         obtain⟨H,u,l,E,F⟩:=m.cell i k r b hi G
         injection l with l
         subst l
         exact⟨u,by rw[Addr.add_add];exact E,F⟩
        obtain⟨v,s,C⟩:=VC (P:=P) q.1 d c
        refine jM f hB (v:=v) ?_ C
        rw[Addr.add_add] at s
        simpa [Instr.loadAt,Instr.sureAddr] using s
   ·cases c
 | _=>cases c
theorem Ka{rest:List AV}:∀ {r:List AV} {k:Nat} {ns c:List AV},lay r k ns=some c->lay (r++rest) k ns=some (c++rest)
 | r,0,[],c,h=>by
   have e:∀l:List AV,lay l 0 []=some l:=λl=>by cases l<;>rfl
   rw[e] at h;cases h;exact e _
 | [],k+1,_,_,h=>by cases h
 | [],0,_::_,_,h=>by cases h
 | a::r,0,n::ns,c,h=>by
   simp only[lay] at h
   cases b:lay r 0 ns with
   | none=>rw[b] at h;cases h
   | some q=>
     rw[b] at h;injection h with h;subst h
     simp[lay,Ka b]
 | a::r,k+1,ns,c,h=>by
   simp only[lay] at h
   cases b:lay r k ns with
   | none=>rw[b] at h;cases h
   | some q=>
     rw[b] at h;injection h with h;subst h
     simp[lay,Ka b]
theorem xCa{rest b:List AV}{m:Nat}{ns:List AV}(h:lay rest m ns=some b):∀(x:List AV),lay (x++rest) (x.length+m) ns=some (x++b)
 | []=>by simpa using h
 | a::x=>by
   rw[List.length_cons,show x.length+1+m=(x.length+m)+1 by omega]
   simp[lay,xCa h x]
theorem Wo{e:Nat}:∀ {xs:List (List AV)},(∀x∈xs,x.length=e)->∀ {i k:Nat} {r ns a:List AV},xs[i]? =some r->lay r k ns=some a->lay xs.flatten (i*e+k) ns=some (xs.set i a).flatten
 | x::xs,h,0,k,r,ns,a,hi,b=>by
   injection hi with hi
   subst hi
   simpa using Ka (rest:=xs.flatten) b
 | x::xs,h,i+1,k,r,ns,a,hi,b=>by
   have c:=h x (by simp)
   have:=xCa (Wo (xs:=xs) (λy d=>h y (by simp[d])) (i:=i) hi b) x
   rw[c] at this
   rw[show(i+1)*e+k=e+(i*e+k) by rw[Nat.succ_mul];omega]
   simpa using this
theorem yma(z:HOk B w g h)(hB:B<=w.heap.size){id ty e st:Nat}{xs xs':List (List AV)}(t:h[id]? =some (.row ty e xs st)){A:Addr}{J R:Nat}(d:g.cur id= .slice (some A) J R){o:Nat}{vs:List Value}{ns:List AV}
  (k:ARs (ctx w g h) ns vs) (I:∀v∈vs,v.oneCell'=true) (f:lay xs.flatten o ns=some xs'.flatten) (p:∀x∈xs',x.length=e) (a:xs'.length=xs.length):
  ∃w' g',(storeCells (A.add o) vs).run P w= .ok () w'/\Good B w g h w' g' (h.set id (.row ty e xs' st)):=by
 obtain⟨W,V,cells,D,G⟩:=z.ok id _ t
 obtain⟨N,s⟩:=KL G _ k f
 rcases D.2 with⟨n,_⟩|⟨i,cap,cur,n,S,C,r,M,H,T⟩
 ·have c:g.cur id=_:=n
  rw[c] at d;cases d
 ·have c:g.cur id=_:=n
  have q:A=⟨i,0,none⟩:=by
   rw[c] at d
   injection d with d
   injection d with d
   exact d.symm
  subst q
  have U:cells.length=xs.length*e:=D.1
  have Q:xs.length*e<=cur.size:=by rw[H];exact Nat.mul_le_mul_right _ r
  have F:o+vs.length<=xs.length*e:=by rw[U] at s;exact s
  have j:=run_storeCells_at P i o ty vs 0 cur w C (by simp only[Nat.add_zero];omega) I
  simp only[Nat.add_zero] at j
  rw[Addr.add_lit,Nat.zero_add]
  refine⟨_,_,j,Zy (v':=g.cur id) (st':=st) (cells:=cells.take o++vs++cells.drop (o+vs.length)) z hB t p ?_ ?_ N (.inl ⟨rfl,rfl⟩) (λb E=> .inl E)⟩
  ·rw[c]
   exact JN w i _
  ·rw[c]
   refine⟨?_,.inr ⟨i,cap,_,by rw[a],S,setRow_heap w i cur _ ty _ C,by rw[a];exact r,M,?_,?_⟩⟩
   ·simp only[zf,zJ,List.length_drop]
    rw[a]
    omega
   ·simp only[List.size_toArray,zf,zJ,List.length_drop,qF]
    omega
   ·rw[a, <-T]
    apply qX
    intro m
    simp only[qY,List.getElem?_append,zJ,zf,List.getElem?_drop,qF]
    have O:min (xs.length*e) cur.size=xs.length*e:=by omega
    simp only[O]
    have L:min o (xs.length*e)=o:=by omega
    have l:min o cur.size=o:=by omega
    simp only[L,l]
    by_cases u:m<o
    ·simp[u,show m<o+vs.length by omega,show m<xs.length*e by omega]
    ·by_cases y:m<o+vs.length
     ·simp[u,y,show m<xs.length*e by omega]
     ·have K:o+vs.length+(m - (o+vs.length))=m:=by omega
      simp[y,K]
theorem Zua(C:HOk B w g h)(hB:B<=w.heap.size){t:TypeId}{p y:AV}{u v:Value}{ns:List AV}(Q:AR (ctx w g h) p u)(hy:AR (ctx w g h) y v)(W:(zQ P t).ok=true)(X:y.cells=some ns)(R:ns.length=(zQ P t).sz)
  (b:ZA h ns p=some h'):∃w' g',(Instr.storeAt t u v).run P w= .ok () w'/\Good B w g h w' g' h':=by
 obtain⟨d,i,hu,hi,eq⟩:=jy W
 obtain⟨m,q⟩:=Yh X hy
 have f:v.cells.size=i.size:=by
  have:=wA m
  rw[eq] at R
  simp at this R
  omega
 have z:∀(D off:Nat) (ty:TypeId) (cur:Array Value),w.heap[D]? =some (.cells cur ty (0,0))->off+v.cells.toList.length<=cur.size->
   (Instr.storeAt t (.pointer (some ⟨D,off,none⟩)) v).run P w= .ok () (w.setRow D (cur.toList.take off++v.cells.toList++cur.toList.drop (off+v.cells.toList.length)).toArray):=λD off ty cur Z S=>by
  have:=run_storeCells_at P D off ty v.cells.toList 0 cur w Z (by simpa using S) q
  simp only[Nat.add_zero] at this
  simp[Instr.storeAt,Instr.sureAddr,storeVar,sizeOf,typeInfo,hi,f]
  simpa [f] using this
 cases p with
 | ptr id off=>
   simp only[ZA] at b
   split at b
   ·rename_i ty cs l
    cases c:lay cs off ns with
    | none=>rw[c] at b;cases b
    | some cs'=>
      rw[c] at b
      injection b with b
      subst b
      obtain⟨M,vs,N,O⟩:=C.ok id _ l
      obtain⟨G,h5⟩:=KL O off m c
      obtain⟨_,e⟩:=Q
      subst e
      exact⟨_,_,z _ off ty vs N (by simpa using h5),Jka C hB l (by simpa using G)⟩
   ·cases b
 | ep a e j k=>
   cases a<;>try (cases b;done)
   rename_i id st
   simp only[ZA] at b
   split at b
   ·rename_i ty K xs s l
    split at b
    ·rename_i hc
     obtain⟨H,L⟩:=hc
     subst H L
     cases F:xs[j]? with
     | none=>rw[F] at b;cases b
     | some r=>
       rw[F] at b
       simp only[Option.bind_some] at b
       cases c:lay r k ns with
       | none=>rw[c] at b;cases b
       | some T=>
         rw[c] at b
         injection b with b
         subst b
         have V:eOf h (.tl id s)=some K:=by simp[eOf,l]
         have U:qa h (.tl id s)=some xs:=by simp[qa,l]
         obtain⟨A,cp,M,N,O,G⟩:=yla C Q V U
         subst G
         have E:=Qj M l
         obtain⟨q0,I,cells,q2,q3⟩:=C.ok id _ l
         have J:=Wo I F c
         have n:∀x∈xs.set j T,x.length=K:=λx b=>by
          rcases List.mem_or_eq_of_mem_set b with b|b
          ·exact I x b
          ·subst b;rw[WY c];exact I r (qq F)
         obtain⟨w',g',Y,z2⟩:=yma (P:=P) C hB l E.symm (o:=j*K+k) m q J n (by simp)
         refine⟨w',g',?_,z2⟩
         simp[Instr.storeAt,Instr.sureAddr,storeVar,sizeOf,typeInfo,hi,f]
         simpa [f] using Y
    ·cases b
   ·cases b
 | _=>cases b
end
section
variable {B:Nat} {w:World} {g:Gh} {h h':List Ob} {P:Program} {x:AV} {T:Nat->AV} {a:Act}
theorem Jz{t ty e:TypeId}{i:TypeInfo}(b:P.underlying t=some (.slice e))(hi:P.info? e=some i)(base:Option Addr)(n cap k:Nat)(a:n<=cap):
  (Builtin.append_ #[t,t] ty #[.slice base n cap,.slice none 0 k]).run P w= .ok (.slice base n cap) w:=by
 cases base<;>simp[Builtin.append_,run_underlying b,sizeOf,typeInfo,hi,Builtin.lenOf,a,Builtin.firstCells,storeCells]
theorem qsa{c:Ctx}{e:Nat}{xs:List (List AV)}{A:Addr}(f:RowsAt w c e xs (some A))(v:∀r∈xs,r.all AV.one=true):
  ∃news:List Value,news.length=xs.length*e/\(∀j u,news[j]? =some u->w.cell? (A.add j)=some u)/\(∀u∈news,u.oneCell'=true)/\ARs c xs.flatten news:=by
 have z:PartAt w c A xs.flatten:=λk a l=>by
  by_cases t:e=0
  ·have:xs.flatten=[]:=by
    apply zF
    rw[vU f.len,t,Nat.mul_zero]
   rw[this] at l;cases l
  ·have h:=(zd.1 l).1
   rw[vU f.len] at h
   have hi:k / e<xs.length:=by rw[Nat.div_lt_iff_lt_mul (by omega)];exact h
   have C:k % e<e:=Nat.mod_lt _ (by omega)
   have d:xs[k / e]? =some xs[k / e]:=zj hi
   have B:xs[k / e].length=e:=f.len _ (zy hi)
   have b:xs[k / e][k % e]? =some xs[k / e][k % e]:=zj (by omega)
   have i:=Z2 f.len d b
   have g:k / e*e+k % e=k:=by rw[Nat.mul_comm];exact Nat.div_add_mod k e
   rw[g,l] at i
   injection i with i
   obtain⟨D,u,m,q,y⟩:=f.cell _ _ _ _ d b
   injection m with m
   subst m
   rw[g] at q
   exact⟨u,q,by rw[i];exact y⟩
 obtain⟨vs,n,x⟩:=z.vals
 refine⟨vs,by rw[<-wA n,vU f.len],x,?_,n⟩
 refine Qs ?_ n
 rw[qb]
 intro a s
 obtain⟨r,p,o⟩:=List.mem_flatten.1 s
 exact qb.1 (v r p) a o
theorem jza{a:Nat}{e:TypeId}{size:Nat}{v:Value}{k:Nat}{xs:List Value}(h:w.ownsRow B e size v k xs)(c:a<=B):w.ownsRow a e size v k xs:=by
 refine⟨h.1,?_⟩
 rcases h.2 with d|⟨g,cap,cur,b,f,r⟩
 ·exact .inl d
 ·exact .inr ⟨g,cap,cur,b,Nat.le_trans c f,r⟩
theorem vDa{t ty e:TypeId}{i:TypeInfo}{z:Value}(r:P.underlying t=some (.slice e))(hi:P.info? e=some i)(B:i.zero=some z)(C:0<i.size)
  {D:Nat} {v:Value} {n:Nat} {xs:List Value} (h:w.ownsRow D e i.size v n xs) {l:Addr} {m c:Nat} {news:List Value} (s:news.length=m*i.size) (a:∀j u,news[j]? =some u->w.cell? (l.add j)=some u) (F:∀u∈news,u.oneCell'=true)
  (A:n+m<=maxLen) (d:(n+m)*i.bytes<=140737488355328) {v':Value} {w':World} (k:(Builtin.append_ #[t,t] ty #[v,.slice (some l) m c]).run P w= .ok v' w') (b:Nat) (p:v'.ownBlock=some b):
  v.ownBlock=some b∨w.heap.size<=b:=by
 have q:n+m<=9223372036854775807:=by simp only[maxLen] at A;omega
 rcases h.2 with⟨rfl,rfl⟩|⟨g,cap,cur,rfl,H,I,G,J,y,x⟩
 ·by_cases E:m=0
  ·subst E
   have:(Builtin.append_ #[t,t] ty #[.slice none 0 0,.slice (some l) 0 c]).run P w= .ok (.slice none 0 0) w:=by
    simp[Builtin.append_,run_underlying r,sizeOf,typeInfo,hi,Builtin.lenOf,Builtin.firstCells,loadCells,loadCellsFrom]
   rw[this] at k
   injection k with e1 e2
   subst e1
   simp[Value.ownBlock] at p
  ·rw[run_append_nil (P:=P) w t ty e i z r hi B l m c news s a (by omega) (by omega) (by simp only[Nat.zero_add] at d;omega)] at k
   injection k with e1 e2
   subst e1
   simp[Value.ownBlock] at p
   exact .inr (by omega)
 ·by_cases f:n+m<=cap
  ·have o:n*i.size+news.length<=cur.size:=by rw[s,y, <-Nat.add_mul];exact Nat.mul_le_mul_right _ f
   rw[run_append_room (P:=P) w t ty e i r hi g n cap cur I l m c news s a F f o] at k
   injection k with e1 e2
   subst e1
   exact .inl p
  ·have holds:∀j u,xs[j]? =some u->w.cell? ((⟨g,0,none⟩:Addr).add j)=some u:=h.cells (g:=g) rfl
   rw[run_append_grow (P:=P) w t ty e i z r hi B ⟨g,0,none⟩ n cap xs h.1 holds l m c news s a (by omega) (by omega) (growslice_fits (by omega) d)] at k
   injection k with e1 e2
   subst e1
   simp[Value.ownBlock] at p
   exact .inr (by omega)
theorem vEa(Y:HOk B w g h)(hB:B<=w.heap.size){t ty e:TypeId}{s y:AV}{u v:Value}(hs:AR (ctx w g h) s u)(hy:AR (ctx w g h) y v)(M:(zQ P t).kind= .slice e)(a:QY P h e s y=some (x,h')):
  DidV P (Builtin.append_ #[t,t] ty #[u,v]) B w g h x h':=by
 obtain⟨d,it,X,ω,eq⟩:=jy (jB M (by simp))
 rw[eq] at M
 cases d<;>try (cases M;done)
 injection M with M
 subst M
 rename_i e
 unfold QY at a
 cases o:qa h y with
 | none=>simp[o] at a
 | some ys=>
   simp only[o,Option.bind_some] at a
   split at a
   ·rename_i hc
    obtain⟨ho,h0,U,L⟩:=hc
    obtain⟨d',i,hu',hi,I⟩:=jy ho
    have ρ:(zQ P e).sz=i.size:=by rw[I]
    have σ:(zQ P e).bytes=i.bytes:=by rw[I]
    rw[ρ] at h0 L U a
    rw[σ] at a
    cases q:i.zero with
    | none=>rw[I] at U;simp[q] at U
    | some z=>
      rw[I] at U
      have Z:z.cells.size=i.size:=by simpa [q] using U
      have c:∀r∈ys,r.length=i.size/\r.all AV.one=true:=λr o=>by
       have:=qb.1 L r o
       simpa only[zq,beq_iff_eq] using this
      obtain⟨A,k,e1,e2,e3,e4⟩:=wB Y _ hy o
      subst e1
      have E:(∃m,A=some m)->∃m news,A=some m/\news.length=ys.length*i.size/\(∀j u,news[j]? =some u->w.cell? (m.add j)=some u)/\(∀u∈news,u.oneCell'=true)/\ARs (ctx w g h) ys.flatten news:=by
       rintro ⟨m,rfl⟩
       cases f:ys with
       | nil=>exact⟨m,[],rfl,by simp,by simp,by simp,rfl⟩
       | cons r rs=>
         cases V:eOf h y with
         | none=>rw[e4 V] at f;cases f
         | some e'=>
           have H:=e3 e' V
           have ζ:e'=i.size:=by rw[<-H.len r (by rw[f];simp),(c r (by rw[f];simp)).1]
           subst ζ
           obtain⟨news,n1,n2,n3,n4⟩:=qsa H λr o=>(c r o).2
           rw[<-f]
           exact⟨m,news,rfl,n1,n2,n3,n4⟩
      have C:A=none->ys=[]:=λK=>by
       cases f:ys with
       | nil=>rfl
       | cons r rs=>
         cases V:eOf h y with
         | none=>rw[e4 V] at f;cases f
         | some e'=>
           have H:=e3 e' V
           have hr0:=(c r (by rw[f];simp)).1
           obtain⟨m,u,q1,_⟩:=H.cell 0 0 r (nth r 0) (by rw[f];rfl) (Z1 (by omega))
           rw[K] at q1;cases q1
      split at a
      ·rename_i id st
       split at a
       ·rename_i p e' xs s F
        split at a
        ·rename_i η
         obtain⟨c1,c2,c3,W⟩:=η
         subst c1 c2 c3
         injection a with a
         injection a with hx1 hx2
         subst hx1 hx2
         have n:=Qj hs F
         obtain⟨q0,q1,cells,q2,q3⟩:=Y.ok id _ F
         have D:w.ownsRow B p i.size (g.cur id) xs.length cells:=q2
         rw[<-n] at D
         have ξ:xs.length+ys.length<=140737488355328:=Nat.le_trans (Nat.le_mul_of_pos_right _ (by omega)) W
         have G:(xs.length+ys.length)*i.bytes<=140737488355328:=Nat.le_trans (Nat.mul_le_mul_left _ (by omega)) W
         have υ:∀x∈xs++ys,x.length=i.size:=λx a=>by
          rcases zK.1 a with a|a
          ·exact q1 x a
          ·exact(c x a).1
         have fin:∀(v':Value) (w':World) (l:List Value),w'.ownsRow B p i.size v' (xs++ys).length l->ARs (ctx w g h) (xs++ys).flatten l->w.grownBy w' (g.cur id).ownBlock->(∀b,v'.ownBlock=some b->(g.cur id).ownBlock=some b∨w.heap.size<=b)->
           Good B w g h w' ⟨g.β,λj=>if j=id then v' else g.cur j⟩ (h.set id (.row p i.size (xs++ys) (s+1)))/\AR (ctx w' ⟨g.β,λj=>if j=id then v' else g.cur j⟩ (h.set id (.row p i.size (xs++ys) (s+1)))) (.tl id (s+1)) v':=λv' w' l R S J r4=>by
          refine⟨Zy Y hB F υ J R S (.inr (by omega)) r4,?_,⟨_,zp (vS F),rfl⟩,λs' κ=>?_⟩
          ·obtain⟨A,cp,e1,_⟩:=yr R;exact⟨A,_,cp,e1⟩
          ·have:s+1=s':=by
            have:=κ
            simp only[ctx,zp (vS F),Ob.tok,Option.some.injEq] at this
            exact this
           exact⟨by omega,λ_=>by simp[ctx]⟩
         cases K:A with
         | none=>
           have Q:=C K
           subst Q
           obtain⟨A0,cp,z1,z2⟩:=yr D
           have o:=Jz (P:=P) (w:=w) (ty:=ty) X hi A0 xs.length cp k z2
           rw[<-z1] at o
           obtain⟨O,N⟩:=fin u w cells (by simpa using D) (by simpa using q3) ⟨rfl,rfl,rfl,zo _,λ_ _ _=>rfl⟩ (λb T=> .inl (by have e:u=g.cur id:=n;rw[<-e];exact T))
           exact⟨_,_,_,by simpa using o,O,N⟩
         | some m=>
           obtain⟨μ,news,n1,n2,n3,n4,n5⟩:=E ⟨m,K⟩
           rw[K] at n1
           injection n1 with n1
           subst n1
           obtain⟨v',w',R,S,J,r4⟩:=run_append_own (P:=P) w B t ty p i z i.size i.bytes X hi q rfl rfl Z h0 u xs.length cells D m ys.length k news n2 n3 n4 (by simp only[maxLen];omega) G hB
           have ν:w.grownBy w' (g.cur id).ownBlock:=by have e:u=g.cur id:=n;rw[<-e];exact J
           obtain⟨O,N⟩:=fin v' w' (cells++news) (by rw[zf];exact S) (by rw[List.flatten_append];exact vT q3 n5) ν (λb T=>by
            rcases vDa (P:=P) (w:=w) X hi q h0 D n2 n3 n4 (by simp only[maxLen];omega) G R b T with h9|h9
            ·have e:u=g.cur id:=n
             exact .inl (by rw[<-e];exact h9)
            ·exact .inr h9)
           exact⟨_,_,_,R,O,N⟩
        ·cases a
       ·cases a
      ·split at a
       ·rename_i W
        injection a with a
        injection a with hx1 hx2
        subst hx1 hx2
        have hs:u= .slice none 0 0:=hs
        subst hs
        have ξ:ys.length<=140737488355328:=Nat.le_trans (Nat.le_mul_of_pos_right _ (by omega)) W
        have G:ys.length*i.bytes<=140737488355328:=Nat.le_trans (Nat.mul_le_mul_left _ (by omega)) W
        cases K:A with
        | none=>
          have Q:=C K
          subst Q
          have o:=Jz (P:=P) (w:=w) (ty:=ty) X hi none 0 0 k (zo _)
          obtain⟨O,N⟩:=JO Y hB (ty:=e) h0 (xs:=[]) (by simp) 0 (Below.refl _ w) (World.ownsRow_nil w B e i.size) rfl (by simp[Value.ownBlock])
          exact⟨_,_,_,by simpa using o,O,N⟩
        | some m=>
          obtain⟨μ,news,n1,n2,n3,n4,n5⟩:=E ⟨m,K⟩
          rw[K] at n1
          injection n1 with n1
          subst n1
          obtain⟨v',w',R,S,J,r4⟩:=run_append_own (P:=P) w w.heap.size t ty e i z i.size i.bytes X hi q rfl rfl Z h0 (.slice none 0 0) 0 [] (World.ownsRow_nil w _ e i.size) m ys.length k news n2 n3 n4 (by simp only[maxLen];omega) (by simpa using G) (zo _)
          have γ:Below w.heap.size w w':=⟨J.os,J.tape,J.output,J.size,λk M=>J.block k M (by simp[Value.ownBlock])⟩
          obtain⟨O,N⟩:=JO Y hB (ty:=e) h0 (λx a=>(c x a).1) 0 γ (jza (by simpa using S) hB) n5 (λb T=>(World.ownsRow.lt S b T).1)
          exact⟨_,_,_,R,O,N⟩
       ·cases a
      ·cases a
   ·cases a
end
