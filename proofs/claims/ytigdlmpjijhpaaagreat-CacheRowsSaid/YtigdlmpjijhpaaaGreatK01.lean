import Derived.Test.YtigdlmpjijhpaaaGreatKA
import Derived.Test.YtigdlmpjijhpaaaGreatK00
import Derived.Laws.CopyRow
import Derived.Great.BuildSlice
import Derived.Laws.OwnMore
set_option linter.all false
namespace Go.Proofs.YtigdlmpjijhpaaaGreat.Ax
open Go Go.RowKit
def xra:Nat->List AV
 | 0=>[]
 | n+1=> .bad::xra n
def Jv(e:Nat):Nat->List AV->List (List AV)
 | 0,_=>[]
 | n+1,l=>l.take e::Jv e n (l.drop e)
def yP(place:Nat->Option (Nat × Nat))(aZ:List AV):List (Nat × AV)->Option (List AV)
 | []=>some aZ
 | (i,a)::r=>match place i,a.cells with
   | some (off,size),some cs=>if cs.length=size then(lay aZ off cs).bind λb=>yP place b r else none
   | _,_=>none
def X6(P:Program)(a:List (Nat × TypeId))(i:Nat):Option (Nat × Nat):=a[i]?.map λf=>(f.1,(zP P f.2).sz)
def Zw(sz:Nat)(i:Nat):Option (Nat × Nat):=some (i*sz,sz)
def evs(T:Nat->AV):List (Nat × Operand)->List (Nat × AV)
 | []=>[]
 | (i,x)::r=>(i,ev T x)::evs T r
def evl(T:Nat->AV):List Operand->List AV
 | []=>[]
 | x::r=>ev T x::evl T r
def kL:List AV->List AV->Option Bool
 | [],[]=>some true
 | .v (.int k a)::r,.v (.int k' b)::s=>if k=k' then(kL r s).map λt=>a==b && t else none
 | _,_=>none
def yq(P:Program):Nat->List (Nat × TypeId)->Bool
 | _,[]=>true
 | o,f::r=>f.1==o && (match (zP P f.2).kind with | .int _=>true|_=>false) && yq P (o+1) r
def K0a(P:Program)(e:TypeId):Bool:=(match (zP P e).kind with | .int _=>true|_=>false) && (zP P e).sz==1
def xB(P:Program)(t:TypeId):Bool:= !P.eqGuardType P.depth t && !P.stoodInHeld t && (P.fieldsOf t).toList.all λf=>f.name != "_"
def yea:BinOp->Bool
 | .shl | .shr=>true
 | _=>false
def vsa(op:BinOp)(k:IntKind)(a b:Int):Option AV:=match op with
 | .shr=>some (.v (.int k (a.fdiv (2 ^ min b.toNat k.bits))))
 | .shl=>some (.v (.int k (k.wrap (a*2 ^ min b.toNat k.bits))))
 | _=>none
def vta(op:BinOp)(k:IntKind)(a b:Int):Option AV:=match op with
 | .add=>some (.v (.int k (k.wrap (a+b))))
 | .sub=>some (.v (.int k (k.wrap (a - b))))
 | .mul=>some (.v (.int k (k.wrap (a*b))))
 | .or=>some (.v (.int k (k.wrap ((BitVec.ofInt k.bits a ||| BitVec.ofInt k.bits b).toNat:Int))))
 | .quo=>if b=0 then none else some (.v (.int k (k.wrap (a.tdiv b))))
 | .rem=>if b=0 then none else some (.v (.int k (a.tmod b)))
 | .eql=>some (.v (.bool (a==b)))
 | .neq=>some (.v (.bool (a != b)))
 | .lss=>some (.v (.bool (decide (a<b))))
 | .leq=>some (.v (.bool (decide (a<=b))))
 | .gtr=>some (.v (.bool (decide (a>b))))
 | .geq=>some (.v (.bool (decide (a≥b))))
 | _=>none
def Jea(P:Program)(op:BinOp)(t:TypeId):AV->AV->Option AV
 | .v (.int k a),.v (.int k' b)=>if yea op then(if 0<=b then vsa op k a b else none) else if k=k' then vta op k a b else none
 | .v (.bool a),.v (.bool b)=>match (zP P t).kind,op with
   | .bool,.eql=>some (.v (.bool (a==b)))
   | .bool,.neq=>some (.v (.bool (!(a==b))))
   | _,_=>none
 | .ag xs,.ag ys=>match (zP P t).kind,op with
   | .struct c,.eql=>if xB P t && yq P 0 c && xs.length==c.length then(kL xs ys).map λb=> .v (.bool b) else none
   | .struct c,.neq=>if xB P t && yq P 0 c && xs.length==c.length then(kL xs ys).map λb=> .v (.bool (!b)) else none
   | .arr n e,.eql=>if xB P t && K0a P e && xs.length==n then(kL xs ys).map λb=> .v (.bool b) else none
   | _,_=>none
 | .v (.pointer none),.v (.pointer none)=>match (zP P t).kind,op with
   | .ptr _,.eql=>some (.v (.bool true))
   | .ptr _,.neq=>some (.v (.bool false))
   | _,_=>none
 | .ptr _ _,.v (.pointer none)=>match (zP P t).kind,op with
   | .ptr _,.eql=>some (.v (.bool false))
   | .ptr _,.neq=>some (.v (.bool true))
   | _,_=>none
 | .v (.string a),.v (.string b)=>match op with
   | .eql=>some (.v (.bool (a.toList==b.toList)))
   | .neq=>some (.v (.bool (!(a.toList==b.toList))))
   | _=>none
 | _,_=>none
def Zka:List (List AV)->Option (List UInt8)
 | []=>some []
 | [.v (.int .u8 n)]::r=>(Zka r).map (UInt8.ofNat n.toNat:: ·)
 | _=>none
def K1a(P:Program)(s:TypeId)(rows:List (List AV)):Option AV:=match (zP P s).kind with
 | .slice e=>match (zP P e).kind with
   | .int .u8=>(Zka rows).map λl=> .v (.string ⟨l.toArray⟩)
   | _=>none
 | _=>none
def xsa:AV->List AV->Option AV
 | a,[]=>some a
 | .v (.int k x),.v (.int _ y)::r=>xsa (.v (.int k (if y>x then y else x))) r
 | _,_=>none
def xta:AV->List AV->Option AV
 | a,[]=>some a
 | .v (.int k x),.v (.int _ y)::r=>xta (.v (.int k (if y<x then y else x))) r
 | _,_=>none
def Jw(h:List Ob)(τ:Ty):AV->Option AV
 | .ptr id off=>match h[id]? with
   | some (.box _ cs)=>if τ.ok then part cs off τ.agg τ.sz else none
   | _=>none
 | .ep a e i k=>if τ.ok/\eOf h a=some e then(qc h a).bind λxs=>xs[i]?.bind λr=>part r k τ.agg τ.sz else none
 | _=>none
def Zx(h:List Ob)(ns:List AV):AV->Option (List Ob)
 | .ptr id off=>match h[id]? with
   | some (.box ty cs)=>(lay cs off ns).map λcs'=>h.set id (.box ty cs')
   | _=>none
 | .ep (.tl id st) e i k=>match h[id]? with
   | some (.row ty a xs s)=>if s=st/\a=e then xs[i]?.bind λr=>(lay r k ns).map λb=>h.set id (.row ty e (xs.set i b) st) else none
   | _=>none
 | _=>none
def vua(h:List Ob)(n:Int)(a:AV):Option AV:=
 (qc h a).bind λxs=>(eOf h a).bind λe=>if 0<=n/\n<xs.length then some (.ep a e n.toNat 0) else none
def QW(P:Program)(h:List Ob)(e:TypeId)(s x:AV):Option (AV × List Ob):=
 let τ:=zP P e
 (qc h x).bind λys=>
  if τ.ok/\0<τ.sz/\(τ.zero.map List.length)=some τ.sz/\ys.all (λr=>r.length==τ.sz && r.all AV.one) then
   match s with
   | .tl id st=>match h[id]? with
     | some (.row ty a xs s)=>if s=st/\ty=e/\a=τ.sz/\(xs.length+ys.length)*(τ.bytes+1)<=140737488355328 then some (.tl id (st+1),h.set id (.row ty a (xs++ys) (st+1))) else none
     | _=>none
   | .v (.slice none 0 0)=>if ys.length*(τ.bytes+1)<=140737488355328 then some (.tl h.length 0,h++[.row e τ.sz ys 0]) else none
   | _=>none
  else none
def YIa:AV->Bool
 | .em=>true
 | _=>false
def xV:AV->Bool
 | .v (.slice none _ _)=>true
 | _=>false
def jta:Option (List (List AV))->Option Nat->Bool
 | some (_::_),some e=>decide (0<e)
 | _,_=>false
def X7(h:List Ob)(a:AV):Bool:=YIa a || jta (qc h a) (eOf h a)
def Yi(op:BinOp)(b:Bool):Option AV:=match op with
 | .eql=>some (.v (.bool b))
 | .neq=>some (.v (.bool (!b)))
 | _=>none
def xua(P:Program)(h:List Ob)(op:BinOp)(t:TypeId)(a:AV):Option AV:=match (zP P t).kind with
 | .slice _=>if xV a then Yi op true else if X7 h a then Yi op false else none
 | _=>none
def Xo:Operand->Bool
 | .const (.slice none _ _)=>true
 | _=>false
def vl(h:List Ob):AV->Option (Nat × Nat × Nat × Nat)
 | .tl id st=>match h[id]? with
   | some (.row _ _ xs s)=>if s=st then some (id,st,0,xs.length) else none
   | _=>none
 | .vw (.tl id st) e i n=>match h[id]? with
   | some (.row _ a xs s)=>if s=st/\a=e/\i+n<=xs.length then some (id,st,i,n) else none
   | _=>none
 | _=>none
def kN(xs:List (List AV))(i:Nat)(ys:List (List AV)):List (List AV):=xs.take i++ys++xs.drop (i+ys.length)
def vN(h:List Ob)(id i:Nat)(ty e:Nat)(ys:List (List AV)):Option (List Ob):=match h[id]? with
 | some (.row a b xs st)=>if a=ty/\b=e/\ys.all (λr=>r.length==e && r.all AV.one) then some (h.set id (.row a b (kN xs i ys) st)) else none
 | _=>none
def Qr(P:Program)(T:Nat->AV)(h:List Ob)(c:Call):Option (AV × List Ob):=
 match c.callee,c.args.toList,c.argTypes.toList with
 | .builtin .len,[x],[t]=>match (zP P t).kind with
   | .slice _=>(qc h (ev T x)).map λxs=>(.v (.int .i64 xs.length),h)
   | _=>none
 | .builtin .append,[s,x],[t,a]=>match (zP P t).kind with
   | .slice e=>if a=t then QW P h e (ev T s) (ev T x) else none
   | _=>none
 | .builtin .clear,[x],[t]=>match (zP P t).kind with
   | .slice e=>(vl h (ev T x)).bind λ(id,_,i,n)=>(zP P e).zero.bind λz=>
     if(zP P e).ok/\z.length=(zP P e).sz then(vN h id i e (zP P e).sz (List.replicate n (z.map .v))).map λh'=>(.tup [],h') else none
   | _=>none
 | .builtin .copy,[d,x],[t,a]=>match (zP P t).kind with
   | .slice e=>if a=t/\(zP P e).ok/\0<(zP P e).sz then(vl h (ev T d)).bind λ(id,_,i,n)=>(qc h (ev T x)).bind λys=>
     (vN h id i e (zP P e).sz (ys.take n)).map λh'=>(.v (.int .i64 ((ys.take n).length:Nat)),h') else none
   | _=>none
 | .builtin .max,x::r,_=>(xsa (ev T x) (evl T r)).map (·,h)
 | .builtin .min,x::r,_=>(xta (ev T x) (evl T r)).map (·,h)
 | _,_,_=>none
def yfa(τ:Ty):Option AV:=if τ.one then τ.zero.bind λz=>z.head?.map .v else none
def jG(P:Program)(T:Nat->AV):Op->Option (Ob × (Nat->AV))
 | .alloc t=>if(zP P t).ok then(zP P t).zero.map λz=>(.box t (z.map .v),λi=> .ptr i 0) else none
 | .box t x=>(ev T x).cells.map λcs=>(.box t cs,λi=> .ptr i 0)
 | .buildSlice t n a=>match (zP P t).kind with
   | .slice e=>if(zP P e).ok/\0<(zP P e).sz/\n*(zP P e).sz<=16777216/\(zP P e).zero.isSome then
     (yP (Zw (zP P e).sz) (xra (n*(zP P e).sz)) (evs T a.toList)).map λcs=>(.row e (zP P e).sz (Jv (zP P e).sz n cs) 0,λi=> .tl i 0) else none
   | _=>none
 | .makeSlice t l c=>match (zP P t).kind,ev T l,ev T c with
   | .slice e,.v (.int _ n),.v (.int _ m)=>if n=m/\0<=n/\n*((zP P e).bytes+1)<=140737488355328/\(zP P e).ok/\0<(zP P e).sz/\((zP P e).zero.map List.length)=some (zP P e).sz then
     (zP P e).zero.map λz=>(.row e (zP P e).sz (List.replicate n.toNat (z.map .v)) 0,λi=> .tl i 0) else none
   | _,_,_=>none
 | .makeMap t none=>match (zP P t).kind with
   | .mapk _ _=>some (.mapo [],λi=> .mp i)
   | _=>none
 | _=>none
def vm:AV × AV->Int
 | (.v (.int _ m),_)=>m
 | _=>0
def vE(kk:IntKind):List (AV × AV)->Bool
 | []=>true
 | (.v (.int k _),_)::r=>k==kk && vE kk r
 | _=>false
def xh(kk:IntKind)(n:Int)(v:AV):List (AV × AV)->List (AV × AV)
 | []=>[(.v (.int kk n),v)]
 | p::r=>if n<vm p then(.v (.int kk n),v)::p::r else p::xh kk n v r
def kR(n:Int):List (AV × AV)->Bool
 | []=>false
 | p::r=>vm p==n || kR n r
def xC(kk:IntKind)(n:Int)(v:AV):List (AV × AV)->List (AV × AV)
 | []=>[]
 | p::r=>(if vm p=n then(.v (.int kk n),v) else p)::xC kk n v r
def JD(kk:IntKind)(n:Int)(v:AV)(es:List (AV × AV)):Option (List (AV × AV)):=
 if vE kk es then some (if kR n es then xC kk n v es else xh kk n v es) else none
def Jx(n:Int)(z:AV):List (AV × AV)->AV × Bool
 | []=>(z,false)
 | p::r=>(if vm p=n then p.2 else(Jx n z r).1,vm p==n || (Jx n z r).2)
def xva(kk:IntKind)(n:Int)(z:AV)(es:List (AV × AV)):Option (AV × Bool):=if vE kk es then some (Jx n z es) else none
def Z2(T:Nat->AV)(d:Int):Option Operand->Option Int
 | none=>some d
 | some x=>match ev T x with
   | .v (.int _ n)=>some n
   | _=>none
def qf(P:Program)(T:Nat->AV)(h:List Ob):Op->Option (AV × List Ob)
 | .move x=>some (ev T x,h)
 | .assign x=>some (ev T x,h)
 | .pick c a b=>match ev T c with
   | .v (.bool t)=>some (if t then ev T a else ev T b,h)
   | _=>none
 | .alloc t=>(jG P T (.alloc t)).map λq=>(q.2 h.length,h++[q.1])
 | .box t x=>(jG P T (.box t x)).map λq=>(q.2 h.length,h++[q.1])
 | .buildSlice t n j=>(jG P T (.buildSlice t n j)).map λq=>(q.2 h.length,h++[q.1])
 | .makeSlice t l c=>(jG P T (.makeSlice t l c)).map λq=>(q.2 h.length,h++[q.1])
 | .makeMap t r=>(jG P T (.makeMap t r)).map λq=>(q.2 h.length,h++[q.1])
 | .build t j=>match (zP P t).kind with
   | .struct g=>if g.all (λf=>(zP P f.2).ok) then(zP P t).zero.bind λz=>(yP (X6 P g) (z.map .v) (evs T j.toList)).map λcs=>(.ag cs,h) else none
   | .arr _ e=>if(zP P e).ok then(zP P t).zero.bind λz=>(yP (Zw (zP P e).sz) (z.map .v) (evs T j.toList)).map λcs=>(.ag cs,h) else none
   | _=>none
 | .load t a=>(Jw h (zP P t) (ev T a)).map (·,h)
 | .store t a x=>if(zP P t).ok then(ev T x).cells.bind λns=>if ns.length=(zP P t).sz then(Zx h ns (ev T a)).map λh'=>(.v undef,h') else none else none
 | .nilCheck x=>match ev T x with
   | .ptr id off=>some (.ptr id off,h)
   | .ep a e i k=>some (.ep a e i k,h)
   | .fn (.func f) a b=>some (.fn (.func f) a b,h)
   | _=>none
 | .binOp op t x y _=>(if Xo y then xua P h op t (ev T x) else Jea P op t (ev T x) (ev T y)).map (·,h)
 | .unOp op _ x=>match op,ev T x with
   | .neg,.v (.int k n)=>some (.v (.int k (k.wrap (0 - n))),h)
   | .not,.v (.bool b)=>some (.v (.bool (!b)),h)
   | _,_=>none
 | .convert s d x=>match (zP P s).ok,(zP P d).kind,ev T x with
   | true,.int k,.v (.int _ n)=>some (.v (.int k (k.wrap n)),h)
   | true,.str,.sl 1 rows=>(K1a P s rows).map (·,h)
   | _,_,_=>none
 | .makeFunc f a b=>some (.fn f (evl T a.toList) (evl T b.toList),h)
 | .fieldAddr t x i=>match (zP P t).kind with
   | .struct g=>g[i]?.bind λf=>if(zP P f.2).ok/\0<(zP P f.2).sz then(match ev T x with
     | .ptr id off=>some (.ptr id (off+f.1),h)
     | .ep a e i k=>some (.ep a e i (k+f.1),h)
     | _=>none) else none
   | _=>none
 | .field t x i=>match (zP P t).kind,ev T x with
   | .struct g,.ag cs=>g[i]?.bind λf=>if(zP P f.2).ok then(part cs f.1 (zP P f.2).agg (zP P f.2).sz).map (·,h) else none
   | _,_=>none
 | .indexAddr t x i=>match (zP P t).kind,ev T i with
   | .slice e,.v (.int _ n)=>if(zP P e).ok/\0<(zP P e).sz/\eOf h (ev T x)=some (zP P e).sz then(vua h n (ev T x)).map (·,h) else none
   | .arr m e,.v (.int _ n)=>if(zP P e).ok/\0<=n/\n<m then(match ev T x with
     | .ptr id off=>some (.ptr id (off+n.toNat*(zP P e).sz),h)
     | .ep a w i k=>some (.ep a w i (k+n.toNat*(zP P e).sz),h)
     | _=>none) else none
   | _,_=>none
 | .index t x i=>match (zP P t).kind,ev T x,ev T i with
   | .arr m e,.ag cs,.v (.int _ n)=>if(zP P e).ok/\0<=n/\n<m then(part cs (n.toNat*(zP P e).sz) (zP P e).agg (zP P e).sz).map (·,h) else none
   | _,_,_=>none
 | .slice t x lo hi none=>match (zP P t).kind with
   | .slice e=>(qc h (ev T x)).bind λxs=>(Z2 T 0 lo).bind λl=>(Z2 T xs.length hi).bind λm=>
     if(zP P e).ok/\0<=l/\l<=m/\m<=xs.length/\(l=m∨(0<(zP P e).sz/\eOf h (ev T x)=some (zP P e).sz)) then some (.vw (ev T x) (zP P e).sz l.toNat (m.toNat - l.toNat),h) else none
   | _=>none
 | .insert t m k v=>match (zP P t).kind,ev T m,ev T k with
   | .mapk o _,.mp id,.v (.int kk n)=>match (zP P o).kind,h[id]? with
     | .int kk',some (.mapo es)=>if kk'=kk then(JD kk n (ev T v) es).map λes'=>(.v undef,h.set id (.mapo es')) else none
     | _,_=>none
   | _,_,_=>none
 | .lookup t m k ok=>match (zP P t).kind,ev T m,ev T k with
   | .mapk o u,.mp id,.v (.int kk n)=>match (zP P o).kind,h[id]?,yfa (zP P u) with
     | .int kk',some (.mapo es),some z=>if kk'=kk then(xva kk n z es).map λp=>(if ok then .tup [p.1,.v (.bool p.2)] else p.1,h) else none
     | _,_,_=>none
   | _,_,_=>none
 | .extract x i=>match ev T x with
   | .tup cs=>if i<cs.length then some (nth cs i,h) else none
   | _=>none
 | .call c=>Qr P T h c
 | _=>none
section
variable {c:Ctx}
theorem xwa:∀(vs:List Value),ARs c (xra vs.length) vs
 | []=>rfl
 | v::r=>⟨v,r,rfl,trivial,xwa r⟩
theorem xxa(off:Nat):∀(us:List Value) (k:Nat) (cells:Array Value),off+k+us.length<=cells.size->
  ((us.zipIdx k).foldl (λcs (p:Value × Nat)=>cs.setIfInBounds (off+p.2) p.1) cells).toList=cells.toList.take (off+k)++us++cells.toList.drop (off+k+us.length)
 | [],k,cells,_=>by simp
 | u::us,k,cells,h=>by
   have h:off+k+(us.length+1)<=cells.size:=by simpa using h
   rw[List.zipIdx_cons,List.foldl_cons,xxa off us (k+1) _ (by simp;omega)]
   apply qX
   intro j
   simp only[Array.toList_setIfInBounds,List.getElem?_append,zH,zJ,qF,zg,List.length_cons]
   by_cases a:j<off+k
   ·simp[a,show j<off+(k+1) by omega,show min (off+(k+1)) cells.size=off+(k+1) by omega,show min (off+k) cells.size=off+k by omega,show j<off+(k+1)+us.length by omega,show j<off+k+(us.length+1) by omega,show off+k≠j by omega]
   ·by_cases c:j=off+k
    ·subst c
     simp[show min (off+(k+1)) cells.size=off+(k+1) by omega,show min (off+k) cells.size=off+k by omega,show off+k<off+(k+1) by omega,show off+k<off+(k+1)+us.length by omega,show off+k<cells.size by omega]
    ·by_cases b:j<off+k+(us.length+1)
     ·simp[a,b,show ¬ j<off+(k+1) by omega,show min (off+(k+1)) cells.size=off+(k+1) by omega,show min (off+k) cells.size=off+k by omega,show j<off+(k+1)+us.length by omega,show j - (off+k)=(j - (off+(k+1)))+1 by omega]
     ·simp[a,b,show ¬ j<off+(k+1)+us.length by omega,show min (off+(k+1)) cells.size=off+(k+1) by omega,show min (off+k) cells.size=off+k by omega]
      rw[zc (by omega)]
      rw[show off+(k+1)+us.length+(j - (off+(k+1)+us.length))=j by omega,show off+k+(us.length+1)+(j - (off+k+(us.length+1)))=j by omega]
      simp
def YJa(c:Ctx):List (Nat × AV)->List (Nat × Value)->Prop
 | [],b=>b=[]
 | (i,a)::r,b=>∃v q,b=(i,v)::q/\AR c a v/\YJa c r q
theorem KL(place:Nat->Option (Nat × Nat)):∀(s:List (Nat × AV)) (d:List (Nat × Value)) (aZ rs:List AV) (cells:Array Value),YJa c s d->ARs c aZ cells.toList->yP place aZ s=some rs->
  ∃b,Instr.fill place cells d=some b/\ARs c rs b.toList
 | [],d,aZ,rs,cells,f,e,h=>by
   have f:d=[]:=f
   subst f
   injection h with h
   subst h
   exact⟨cells,rfl,e⟩
 | (i,a)::r,d,aZ,rs,cells,⟨v,q,w,t,z⟩,e,h=>by
   subst w
   simp only[yP] at h
   split at h
   ·rename_i off size cs l m
    split at h
    ·rename_i o
     cases k:lay aZ off cs with
     | none=>rw[k] at h;cases h
     | some j=>
       rw[k] at h
       obtain⟨p,E⟩:=Yf m t
       have g:v.cells.size=size:=by
        have:=wz p
        simp at this
        omega
       obtain⟨u,y⟩:=KJ e off p k
       have D:off+v.cells.size<=cells.size:=by simpa using y
       have C:=xxa off v.cells.toList 0 cells (by simpa using D)
       have n:(v.cells.zipIdx.foldl (λcs (x:Value × Nat)=>cs.setIfInBounds (off+x.2) x.1) cells).toList=cells.toList.take off++v.cells.toList++cells.toList.drop (off+v.cells.toList.length):=by
        rw[<-Array.foldl_toList,Array.toList_zipIdx]
        simpa using C
       obtain⟨b,A,B⟩:=KL place r q j rs (v.cells.zipIdx.foldl (λcs (x:Value × Nat)=>cs.setIfInBounds (off+x.2) x.1) cells) z (by rw[n];exact u) h
       refine⟨b,?_,B⟩
       simp only[Instr.fill,l,g]
       rw[if_neg (by simp;omega)]
       exact A
    ·cases h
   ·cases h
theorem XV(e:Nat):∀(n:Nat) (l:List AV),l.length=n*e->(Jv e n l).flatten=l/\(∀x∈Jv e n l,x.length=e)/\(Jv e n l).length=n
 | 0,l,h=>by
   have:l=[]:=zF (by simpa using h)
   subst this
   simp[Jv]
 | n+1,l,h=>by
   rw[Nat.succ_mul] at h
   obtain⟨c,b,d⟩:=XV e n (l.drop e) (by simp;omega)
   refine⟨by simp[Jv,c],λx a=>?_,by simp[Jv,d]⟩
   simp only[Jv,zy] at a
   rcases a with rfl|a
   ·simp;omega
   ·exact b x a
end
section
variable {B:Nat} {w:World} {g:Gh} {h h':List Ob} {P:Program} {T:Nat->AV} {a:Act} {x:AV}
def Did(P:Program)(s:Sem Next)(B:Nat)(w:World)(g:Gh)(h:List Ob)(x:AV)(h':List Ob):Prop:=
 ∃a v w' g',s.run P w= .ok a w'/\(a= .value v∨(a= .skip/\v=undef))/\Good B w g h w' g' h'/\AR (ctx w' g' h') x v
def DidV(P:Program)(s:Sem Value)(B:Nat)(w:World)(g:Gh)(h:List Ob)(x:AV)(h':List Ob):Prop:=
 ∃v w' g',s.run P w= .ok v w'/\Good B w g h w' g' h'/\AR (ctx w' g' h') x v
theorem DidV.did{s:Sem Value}(d:DidV P s B w g h x h'):Did P (do pure (.value (<-s))) B w g h x h':=by
 obtain⟨v,w',g',b,a,c⟩:=d
 exact⟨.value v,v,w',g',by simp[b],.inl rfl,a,c⟩
theorem jL{s:Sem Value}{v:Value}(c:HOk B w g h)(hB:B<=w.heap.size)(a:s.run P w= .ok v w)(b:AR (ctx w g h) x v):DidV P s B w g h x h:=
 ⟨v,w,g,a,Good.refl c hB,b⟩
def wT(c:Ctx)(T:Nat->AV)(a:Act):Prop:=∀i,AR c (T i) (a.tmps.getD i undef)
theorem jV{c:Ctx}(b:wT c T a):∀(x:Operand),AR c (ev T x) (a.eval x)
 | .tmp i=>b i
 | .const x=>Ye x
 | .func f=>⟨#[], #[],rfl,rfl,rfl⟩
 | .global _=>trivial
theorem Zi{c:Ctx}(b:wT c T a){x:Operand}{u:Value}(e:ev T x= .v u):a.eval x=u:=by
 have:=jV b x;rw[e] at this;exact this
theorem X8{c:Ctx}(b:wT c T a):∀(l:List Operand),ARs c (evl T l) (l.map a.eval)
 | []=>rfl
 | x::r=>⟨_,_,rfl,jV b x,X8 b r⟩
theorem WX{c:Ctx}(b:wT c T a):∀(l:List (Nat × Operand)),YJa c (evs T l) (l.map λ(i,x)=>(i,a.eval x))
 | []=>rfl
 | (i,x)::r=>⟨_,_,rfl,jV b x,WX b r⟩
theorem jua{t:TypeId}{z:List Value}(h:(zP P t).zero=some z):(zP P t).ok=true:=by
 unfold zP at h⊢
 split at h
 ·rfl
 ·cases h
theorem jB{t:TypeId}{k:K}(h:(zP P t).kind=k)(a:k≠ .other):(zP P t).ok=true:=by
 unfold zP at h⊢
 split at h
 ·rfl
 ·exact absurd h.symm a
theorem Yj{t:TypeId}{i:TypeInfo}{z:Value}(hi:P.info? t=some i)(a:i.zero=some z):(zeroValue t).run P w= .ok z w:=by simp[zeroValue,typeInfo,hi,a]
inductive Made (B:Nat) (w:World) (g:Gh) (h:List Ob) (w':World) (v:Value):Ob->(Nat->AV)->Prop where
 | box (ty:TypeId) (cs:List AV) (vs:Array Value) (hw:w'=w.alloc (.cells vs ty)) (hv:v= .pointer (some ⟨w.heap.size,0,none⟩)) (hn:ARs (ctx w g h) cs vs.toList):Made B w g h w' v (.box ty cs) λi=> .ptr i 0
 | row (ty e:Nat) (xs:List (List AV)) (cells:List Value) (he:0<e) (hx:∀x∈xs,x.length=e) (hb:Below w.heap.size w w') (hown:w'.ownsRow B ty e v xs.length cells) (hn:ARs (ctx w g h) xs.flatten cells)
   (hbl:∀b,v.ownBlock=some b->w.heap.size<=b):Made B w g h w' v (.row ty e xs 0) λi=> .tl i 0
 | map (hw:w'=w.alloc (.map #[] 0)) (hv:v= .map (some w.heap.size)):Made B w g h w' v (.mapo []) λi=> .mp i
theorem Made.more{w':World}{v:Value}{o:Ob}{mk:Nat->AV}(m:Made B w g h w' v o mk)(d:HOk B w g h)(hB:B<=w.heap.size):∃g',Good B w g h w' g' (h++[o])/\AR (ctx w' g' (h++[o])) (mk h.length) v:=by
 cases m with
 | box ty cs vs f b c=>subst f b;exact⟨_,Jca d hB c⟩
 | row ty e xs cells l j k a c i=>exact⟨_,JM d hB l j 0 k a c i⟩
 | map f b=>subst f b;exact⟨_,Jda d hB⟩
theorem Made.at{w':World}{v:Value}{o:Ob}{mk:Nat->AV}(m:Made B w g h w' v o mk)(d:HOk B w g h)(hB:B<=w.heap.size){i:Nat}(hi:h[i]? =some .res):∃g',Good B w g h w' g' (h.set i o)/\AR (ctx w' g' (h.set i o)) (mk i) v:=by
 cases m with
 | box ty cs vs f b c=>subst f b;exact⟨_,YFa d hB hi c⟩
 | row ty e xs cells n k l a c j=>exact⟨_,YGa d hB hi n k 0 l a c j⟩
 | map f b=>subst f b;exact⟨_,YHa d hB hi⟩
theorem Made.live{w':World}{v:Value}{o:Ob}{mk:Nat->AV}(m:Made B w g h w' v o mk):o.isRes=false:=by cases m<;>rfl
theorem Zla(k:HOk B w g h){t:TypeId}{z:List Value}(f:(zP P t).ok=true)(b:(zP P t).zero=some z):
  ∃v w',(Instr.alloc t true (.tuple #[])).run P w= .ok v w'/\Made B w g h w' v (.box t (z.map .v)) (λi=> .ptr i 0):=by
 obtain⟨d,i,j,hi,e⟩:=jx f
 rw[e] at b
 cases a:i.zero with
 | none=>rw[a] at b;cases b
 | some c=>
   rw[a] at b
   injection b with b
   subst b
   exact⟨_,_,by simp[Instr.alloc,Yj hi a,newVar,newRow],.box t _ c.cells rfl rfl (JI _)⟩
theorem K2a(c:HOk B w g h){t:TypeId}{y:AV}{v:Value}{cs:List AV}(b:AR (ctx w g h) y v)(a:y.cells=some cs):
  ∃u w',(Instr.box t v).run P w= .ok u w'/\Made B w g h w' u (.box t cs) (λi=> .ptr i 0):=
 ⟨_,_,by simp[Instr.box,newVar,newRow],.box t _ v.cells rfl rfl (Yf a b).1⟩
theorem qna:∀(a:List Field),(a.all λf=>(zP P f.type).ok)=true->a.mapM (λf=>(P.info? f.type).map λi=>(f.offset,i.size))=some (a.map λf=>(f.offset,(zP P f.type).sz))
 | [],_=>rfl
 | f::a,h=>by
   rw[List.all_cons,zq] at h
   obtain⟨d,i,b,hi,e⟩:=jx h.1
   simp[List.mapM_cons,hi,qna a h.2,e]
theorem Zma(D:HOk B w g h)(hB:B<=w.heap.size)(F:wT (ctx w g h) T a){t:TypeId}{p:Array (Nat × Operand)}{o:List (Nat × TypeId)}{z:List Value}{cs:List AV}
  (m:(zP P t).kind= .struct o) (r:o.all (λf=>(zP P f.2).ok)=true) (k:(zP P t).zero=some z) (A:yP (X6 P o) (z.map .v) (evs T p.toList)=some cs):
  DidV P (Instr.build t (p.map λ(i,x)=>(i,a.eval x))) B w g h (.ag cs) h:=by
 have C:=jua k
 obtain⟨d,i,s,hi,e⟩:=jx C
 rw[e] at k m
 cases d<;>try (cases m;done)
 rename_i fields
 injection m with m
 cases l:i.zero with
 | none=>rw[l] at k;cases k
 | some y=>
   rw[l] at k
   injection k with k
   subst k
   have n:(fields.toList.all λf=>(zP P f.type).ok)=true:=by rw[<-m,List.all_map] at r;exact r
   have q:=qna (P:=P) fields.toList n
   obtain⟨b,E,u⟩:=KL (c:=ctx w g h) (X6 P o) (evs T p.toList) (p.toList.map λ(i,x)=>(i,a.eval x)) _ cs y.cells (WX F _) (JI _) A
   refine jL D hB (v:= .agg b) (run_build w t _ b ?_) ⟨b,rfl,u⟩
   unfold Program.built
   simp only[hi,s,l,q]
   have:(λx=>(fields.toList.map λf=>(f.offset,(zP P f.type).sz)).toArray[x]?)=X6 P o:=by
    funext j
    rw[<-m]
    simp[X6,Option.map_map,Function.comp_def]
   rw[this]
   simpa using E
theorem z6a(A:HOk B w g h)(hB:B<=w.heap.size)(I:wT (ctx w g h) T a){t e:TypeId}{m:Nat}{l:Array (Nat × Operand)}{z:List Value}{cs:List AV}
  (p:(zP P t).kind= .arr m e) (G:(zP P e).ok=true) (f:(zP P t).zero=some z) (F:yP (Zw (zP P e).sz) (z.map .v) (evs T l.toList)=some cs):
  DidV P (Instr.build t (l.map λ(i,x)=>(i,a.eval x))) B w g h (.ag cs) h:=by
 have y:=jua f
 obtain⟨d,i,J,hi,u⟩:=jx y
 rw[u] at f p
 cases d<;>try (cases p;done)
 rename_i n k
 injection p with hk1 hk2
 subst hk2
 obtain⟨K,H,D,o,r⟩:=jx G
 cases j:i.zero with
 | none=>rw[j] at f;cases f
 | some s=>
   rw[j] at f
   injection f with f
   subst f
   obtain⟨b,C,E⟩:=KL (c:=ctx w g h) (Zw (zP P k).sz) (evs T l.toList) (l.toList.map λ(i,x)=>(i,a.eval x)) _ cs s.cells (WX I _) (JI _) F
   refine jL A hB (v:= .agg b) (run_build w t _ b ?_) ⟨b,rfl,E⟩
   unfold Program.built
   simp only[hi,J,j,o]
   have q:H.size=(zP P k).sz:=by rw[r]
   rw[q]
   have:(λi=>some (i*(zP P k).sz,(zP P k).sz))=Zw (zP P k).sz:=rfl
   rw[this]
   simpa using C
theorem vva(hh:HOk B w g h)(hB:B<=w.heap.size)(hT:wT (ctx w g h) T a){t e:TypeId}{n:Nat}{s:Array (Nat × Operand)}{cs:List AV}
  (u:(zP P t).kind= .slice e) (ho:(zP P e).ok=true) (h0:0<(zP P e).sz) (hn:n*(zP P e).sz<=16777216) (H:(zP P e).zero.isSome=true)
  (M:yP (Zw (zP P e).sz) (xra (n*(zP P e).sz)) (evs T s.toList)=some cs):
  ∃v w',(Instr.buildSlice t n (s.map λ(i,x)=>(i,a.eval x))).run P w= .ok v w'/\Made B w g h w' v (.row e (zP P e).sz (Jv (zP P e).sz n cs) 0) (λi=> .tl i 0):=by
 have V:=jB u (by simp)
 obtain⟨d,i,U,hi,eq⟩:=jx V
 rw[eq] at u
 cases d<;>try (cases u;done)
 injection u with u
 subst u
 rename_i e
 obtain⟨d',o,W,D,E⟩:=jx ho
 have I:(zP P e).sz=o.size:=by rw[E]
 rw[I] at h0 hn M⊢
 cases C:o.zero with
 | none=>rw[E] at H;simp[C] at H
 | some z=>
   obtain⟨k,Q,R⟩:=KL (c:=ctx w g h) (Zw o.size) (evs T s.toList) (s.toList.map λ(i,x)=>(i,a.eval x)) _ cs ((Array.range (n*o.size)).map (z.cells[· % z.cells.size]!)) (WX hT _)
    (by have:=xwa (c:=ctx w g h) ((Array.range (n*o.size)).map (z.cells[· % z.cells.size]!)).toList;simpa using this) M
   have K:cs.length=n*o.size:=by
    have key:∀(l:List (Nat × AV)) (aZ rs:List AV),yP (Zw o.size) aZ l=some rs->rs.length=aZ.length:=by
     intro l
     induction l with
     | nil=>intro aZ rs h;injection h with h;rw[h]
     | cons p l L=>
       intro aZ rs h
       obtain⟨j,y⟩:=p
       simp only[yP] at h
       split at h
       ·split at h
        ·rename_i off size us hp hy hl
         cases q:lay aZ off us with
         | none=>rw[q] at h;cases h
         | some Z=>rw[q] at h;rw[L _ _ h,WV q]
        ·cases h
       ·cases h
    have O:∀m,(xra m).length=m:=λm=>by induction m with|zero=>rfl|succ m L=>simp[xra,L]
    rw[key _ _ _ M,O]
   obtain⟨Y,c2,c3⟩:=XV o.size n cs K
   have r:k.size=n*o.size:=by have:=wz R;simp at this;omega
   have F:(Instr.buildSlice t n (s.map λ(i,x)=>(i,a.eval x))).run P w= .ok (.slice (some ⟨w.heap.size,0,none⟩) n n) (w.alloc (.cells k e)):=by
    by_cases A:n*o.size=0
    ·have J:n=0:=by
      rcases Nat.mul_eq_zero.1 A with h|h
      ·exact h
      ·omega
     subst J
     have e0:((Array.range 0).map (z.cells[· % z.cells.size]!))= #[]:=by simp
     have S:Instr.fill (λi=>some (i*o.size,o.size)) #[] (s.map λ(i,x)=>(i,a.eval x)).toList=some k:=by
      have:=Q
      rw[Nat.zero_mul,e0] at this
      rw[Array.toList_map]
      exact this
     generalize (s.map λ(i,x)=>(i,a.eval x))=qs at S
     have X:∀f:Nat->Value,(Array.range 0).map f= #[]:=λf=>by simp[Array.range]
     simp[Instr.buildSlice,run_underlying U,sizeOf,typeInfo,D,X,S,newRow]
    ·exact run_buildSlice w t e n _ k o z U D C (by omega) A (by rw[Array.toList_map];exact Q)
   have hm:n<=maxLen:=by
    have:n<=n*o.size:=Nat.le_mul_of_pos_right n h0
    simp only[maxLen]
    omega
   have N:k.toList.take (n*o.size)=k.toList:=List.take_of_length_le (by simp[r])
   have G:(w.alloc (.cells k e)).ownsRow B e o.size (.slice (some ⟨w.heap.size,0,none⟩) n n) (Jv o.size n cs).length k.toList:=by
    rw[c3]
    exact⟨by simpa using r,.inr ⟨w.heap.size,n,k,rfl,hB,heap_alloc_new w _,zp _,hm,r,N⟩⟩
   exact⟨_,_,F,.row e o.size _ _ h0 c2 ((Below.refl _ w).alloc (zp _) _) G (by rw[Y];exact R) (λb O=>by simp[Value.ownBlock] at O;omega)⟩
theorem XW(z:Array Value)(n:Nat):(madeCells z (n*z.size)).toList=(List.replicate n z.toList).flatten:=by
 by_cases t:z.size=0
 ·have c:z= #[]:=Array.eq_empty_of_size_eq_zero t
  subst c
  have:(List.replicate n ([]:List Value)).flatten=[]:=by rw[List.flatten_eq_nil_iff];intro l d;exact List.eq_of_mem_replicate d
  simp[madeCells,this,Array.range_zero']
 ·have q:∀x∈List.replicate n z.toList,x.length=z.size:=λx b=>by rw[List.eq_of_mem_replicate b];simp
  have d:(List.replicate n z.toList).flatten.length=n*z.size:=by
   have:∀m,(List.replicate m z.toList).flatten.length=m*z.size:=λm=>by
    induction m with
    | zero=>simp
    | succ m o=>rw[List.replicate_succ,List.flatten_cons,zg,o,Nat.succ_mul];simp;omega
   exact this n
  apply qX
  intro j
  by_cases f:j<n*z.size
  ·have e:j % z.size<z.size:=Nat.mod_lt _ (by omega)
   have h:j / z.size<n:=by rw[Nat.div_lt_iff_lt_mul (by omega)];exact f
   have s:(List.replicate n z.toList)[j / z.size]? =some z.toList:=by rw[List.getElem?_replicate,if_pos h]
   have p:z.toList[j % z.size]? =some z[j % z.size]:=by simp[e]
   have key:∀ {xs:List (List Value)},(∀x∈xs,x.length=z.size)->∀ {i k:Nat} {r:List Value} {a:Value},xs[i]? =some r->r[k]? =some a->xs.flatten[i*z.size+k]? =some a:=λb _ _ _ _ hi u=>Z1 b hi u
   have g:=key q s p
   rw[show j / z.size*z.size+j % z.size=j by rw[Nat.mul_comm];exact Nat.div_add_mod j z.size] at g
   rw[g]
   simp[madeCells,f,e]
  ·rw[qB (by simp[madeCells];omega),qB (by rw[d];omega)]
theorem vwa(S:HOk B w g h)(hB:B<=w.heap.size){t e:TypeId}{k1 k2:IntKind}{n:Int}{z:List Value}
  (j:(zP P t).kind= .slice e) (M:0<=n) (s:n*((zP P e).bytes+1)<=140737488355328) (Q:(zP P e).ok=true) (h0:0<(zP P e).sz) (r:(zP P e).zero=some z) (A:z.length=(zP P e).sz):
  ∃v w',(Instr.makeSlice t (.int k1 n) (.int k2 n)).run P w= .ok v w'/\Made B w g h w' v (.row e (zP P e).sz (List.replicate n.toNat (z.map .v)) 0) (λi=> .tl i 0):=by
 obtain⟨d,it,I,O,eq⟩:=jx (jB j (by simp))
 rw[eq] at j
 cases d<;>try (cases j;done)
 injection j with j
 subst j
 rename_i e
 obtain⟨T,i,J,hi,c⟩:=jx Q
 have D:(zP P e).sz=i.size:=by rw[c]
 have E:(zP P e).bytes=i.bytes:=by rw[c]
 rw[D] at h0 A⊢
 rw[E] at s
 cases a:i.zero with
 | none=>rw[c] at r;simp[a] at r
 | some o=>
   have p:o.cells.toList=z:=by rw[c] at r;simpa [a] using r
   obtain⟨m,rfl⟩:=Int.eq_ofNat_of_zero_le M
   have y:m*(i.bytes+1)<=140737488355328:=by
    have:((m*(i.bytes+1):Nat):Int)<=140737488355328:=by simpa using s
    omega
   rw[Nat.mul_add,Nat.mul_one,Nat.mul_comm] at y
   have l:o.cells.size=i.size:=by rw[<-A, <-p];simp
   obtain⟨w',G,N,q⟩:=run_make_full (P:=P) w B t e i o i.size I hi a rfl k1 k2 m (by omega) (by simp only[maxLen];omega) hB
   obtain⟨H,F,L,_⟩:=run_make_full (P:=P) w w.heap.size t e i o i.size I hi a rfl k1 k2 m (by omega) (by simp only[maxLen];omega) (zp _)
   have u:H=w':=by rw[G] at F;injection F with _ h;exact h.symm
   subst u
   refine⟨_,H,G,?_⟩
   have f:(madeCells o.cells (m*i.size)).toList=(List.replicate m z).flatten:=by rw[<-l,XW,p]
   have C:(List.replicate m (z.map AV.v)).flatten=(List.replicate m z).flatten.map AV.v:=by
    induction m with
    | zero=>simp
    | succ m R=>simp[List.replicate_succ]
   simp only[Int.toNat_natCast,Int.ofNat_eq_natCast]
   refine .row e i.size _ (madeCells o.cells (m*i.size)).toList h0 (λx K=>by rw[List.eq_of_mem_replicate K];simp[A]) ⟨q.os,q.tape,q.output,q.size,λk j=>q.block k j (by simp)⟩ (by simpa using N) ?_ (λb s=>(World.ownsRow.lt L b s).1)
   rw[C,f]
   exact JI _
theorem Yk(p:HOk B w g h)(hB:B<=w.heap.size)(q:wT (ctx w g h) T a){op:Op}{o:Ob}{mk:Nat->AV}(b:jG P T op=some (o,mk))(dst:Option Tmp)(type:TypeId)(pos:String)(after:Array Edge)(guard:Option (Nat × Bool)):
  ∃v w',(execOp a.eval ⟨dst,op,type,pos,after,guard⟩).run P w= .ok (.value v) w'/\Made B w g h w' v o mk:=by
 unfold jG at b
 split at b
 ·rename_i t
  split at b
  ·rename_i D
   cases j:(zP P t).zero with
   | none=>rw[j] at b;cases b
   | some z=>
     rw[j] at b
     injection b with b;injection b with hx1 hx2;subst hx1 hx2
     obtain⟨v,w',i,f⟩:=Zla (P:=P) p D j
     exact⟨v,w',by simp[execOp,i],f⟩
  ·cases b
 ·rename_i t y
  cases d:(ev T y).cells with
  | none=>rw[d] at b;cases b
  | some cs=>
    rw[d] at b
    injection b with b;injection b with hx1 hx2;subst hx1 hx2
    obtain⟨v,w',i,f⟩:=K2a (P:=P) (t:=t) p (jV q y) d
    exact⟨v,w',by simp[execOp,i],f⟩
 ·rename_i t n u
  split at b
  ·rename_i e r
   split at b
   ·rename_i k
    cases d:yP (Zw (zP P e).sz) (xra (n*(zP P e).sz)) (evs T u.toList) with
    | none=>rw[d] at b;cases b
    | some cs=>
      rw[d] at b
      injection b with b;injection b with hx1 hx2;subst hx1 hx2
      obtain⟨v,w',i,f⟩:=vva p hB q r k.1 k.2.1 k.2.2.1 k.2.2.2 d
      exact⟨v,w',by simp[execOp,i],f⟩
   ·cases b
  ·cases b
 ·rename_i t l c
  split at b
  ·rename_i e k1 n k2 m r E d
   split at b
   ·rename_i k
    obtain⟨C,s,x,F,f5,f6⟩:=k
    subst C
    cases j:(zP P e).zero with
    | none=>rw[j] at b;cases b
    | some z=>
      rw[j] at b f6
      injection b with b;injection b with hx1 hx2;subst hx1 hx2
      have i:=Zi q E
      have f:=Zi q d
      obtain⟨v,w',G,A⟩:=vwa (P:=P) (k1:=k1) (k2:=k2) p hB r s x F f5 j (by simpa using f6)
      exact⟨v,w',by simp[execOp,i,f,G],A⟩
   ·cases b
  ·cases b
 ·rename_i t
  split at b
  ·injection b with b;injection b with hx1 hx2;subst hx1 hx2
   exact⟨.map (some w.heap.size),w.alloc (.map #[] 0),by simp[execOp,Instr.makeMap,newObj];rfl,.map rfl rfl⟩
  ·cases b
 ·cases b
end
section
variable {B:Nat} {w:World} {g:Gh} {h h':List Ob} {P:Program} {x:AV}
theorem yga(p:HOk B w g h){a:AV}{e i k:Nat}{u:Value}(d:AR (ctx w g h) (.ep a e i k) u){xs:List (List AV)}(j:eOf h a=some e)(l:qc h a=some xs):
  ∃A b,AR (ctx w g h) a (.slice (some A) xs.length b)/\RowsAt w (ctx w g h) e xs (some A)/\i<xs.length/\u= .pointer (some (A.add (i*e+k))):=by
 obtain⟨A,m,b,c,f,o⟩:=d
 obtain⟨s,k',q,r,n,_⟩:=wA p _ c l
 injection q with e4 e5 e6
 subst e5 e6
 have:=n e j
 rw[<-e4] at this
 exact⟨A,b,c,this,f,o⟩
theorem xya(f:HOk B w g h)(hB:B<=w.heap.size){t:TypeId}{p:AV}{u:Value}(o:AR (ctx w g h) p u)(c:Jw h (zP P t) p=some x):DidV P (Instr.loadAt t u) B w g h x h:=by
 cases p with
 | ptr id off=>
   simp only[Jw] at c
   split at c
   ·rename_i ty cs F
    split at c
    ·rename_i y
     obtain⟨v,q,m⟩:=VA (P:=P) y (Yg f F) c
     obtain⟨_,e⟩:=o
     subst e
     refine jL f hB (v:=v) ?_ m
     rw[Addr.add_lit,Nat.zero_add] at q
     simpa [Instr.loadAt,Instr.sureAddr,ctx] using q
    ·cases c
   ·cases c
 | ep a e i k=>
   simp only[Jw] at c
   split at c
   ·rename_i s
    cases l:qc h a with
    | none=>rw[l] at c;cases c
    | some xs=>
      rw[l] at c
      simp only[Option.bind_some] at c
      cases hi:xs[i]? with
      | none=>rw[hi] at c;cases c
      | some r=>
        rw[hi] at c
        obtain⟨A,I,_,m,J,D⟩:=yga f o s.2 l
        subst D
        have d:PartAt w (ctx w g h) (A.add (i*e)) r:=λk b E=>by
         obtain⟨H,u,j,G,z⟩:=m.cell i k r b hi E
         injection j with j
         subst j
         exact⟨u,by rw[Addr.add_add];exact G,z⟩
        obtain⟨v,n,C⟩:=VA (P:=P) s.1 d c
        refine jL f hB (v:=v) ?_ C
        rw[Addr.add_add] at n
        simpa [Instr.loadAt,Instr.sureAddr] using n
   ·cases c
 | _=>cases c
theorem X9{rest:List AV}:∀ {r:List AV} {k:Nat} {ns c:List AV},lay r k ns=some c->lay (r++rest) k ns=some (c++rest)
 | r,0,[],c,h=>by
   have e:∀l:List AV,lay l 0 []=some l:=λl=>by cases l<;>rfl
   rw[e] at h;cases h;exact e _
 | [],k+1,_,_,h=>by cases h
 | [],0,_::_,_,h=>by cases h
 | a::r,0,n::ns,c,h=>by
   simp only[lay] at h
   cases b:lay r 0 ns with
   | none=>rw[b] at h;cases h
   | some q=>
     rw[b] at h;injection h with h;subst h
     simp[lay,X9 b]
 | a::r,k+1,ns,c,h=>by
   simp only[lay] at h
   cases b:lay r k ns with
   | none=>rw[b] at h;cases h
   | some q=>
     rw[b] at h;injection h with h;subst h
     simp[lay,X9 b]
theorem xza{rest b:List AV}{m:Nat}{ns:List AV}(h:lay rest m ns=some b):∀(x:List AV),lay (x++rest) (x.length+m) ns=some (x++b)
 | []=>by simpa using h
 | a::x=>by
   rw[List.length_cons,show x.length+1+m=(x.length+m)+1 by omega]
   simp[lay,xza h x]
theorem Wm{e:Nat}:∀ {xs:List (List AV)},(∀x∈xs,x.length=e)->∀ {i k:Nat} {r ns a:List AV},xs[i]? =some r->lay r k ns=some a->lay xs.flatten (i*e+k) ns=some (xs.set i a).flatten
 | x::xs,h,0,k,r,ns,a,hi,b=>by
   injection hi with hi
   subst hi
   simpa using X9 (rest:=xs.flatten) b
 | x::xs,h,i+1,k,r,ns,a,hi,b=>by
   have c:=h x (by simp)
   have:=xza (Wm (xs:=xs) (λy d=>h y (by simp[d])) (i:=i) hi b) x
   rw[c] at this
   rw[show(i+1)*e+k=e+(i*e+k) by rw[Nat.succ_mul];omega]
   simpa using this
theorem yha(z:HOk B w g h)(hB:B<=w.heap.size){id ty e st:Nat}{xs xs':List (List AV)}(D:h[id]? =some (.row ty e xs st)){A:Addr}{G N:Nat}(d:g.cur id= .slice (some A) G N){o:Nat}{vs:List Value}{ns:List AV}
  (q:ARs (ctx w g h) ns vs) (L:∀v∈vs,v.oneCell'=true) (f:lay xs.flatten o ns=some xs'.flatten) (p:∀x∈xs',x.length=e) (a:xs'.length=xs.length):
  ∃w' g',(storeCells (A.add o) vs).run P w= .ok () w'/\Good B w g h w' g' (h.set id (.row ty e xs' st)):=by
 obtain⟨V,W,cells,C,H⟩:=z.ok id _ D
 obtain⟨O,r⟩:=KJ H _ q f
 rcases C.2 with⟨k,_⟩|⟨j,cap,cur,k,S,s,t,F,K,E⟩
 ·have c:g.cur id=_:=k
  rw[c] at d;cases d
 ·have c:g.cur id=_:=k
  have n:A=⟨j,0,none⟩:=by
   rw[c] at d
   injection d with d
   injection d with d
   exact d.symm
  subst n
  have M:cells.length=xs.length*e:=C.1
  have T:xs.length*e<=cur.size:=by rw[K];exact Nat.mul_le_mul_right _ t
  have U:o+vs.length<=xs.length*e:=by rw[M] at r;exact r
  have i:=run_storeCells_at P j o ty vs 0 cur w s (by simp only[Nat.add_zero];omega) L
  simp only[Nat.add_zero] at i
  rw[Addr.add_lit,Nat.zero_add]
  refine⟨_,_,i,Zv (v':=g.cur id) (st':=st) (cells:=cells.take o++vs++cells.drop (o+vs.length)) z hB D p ?_ ?_ O (.inl ⟨rfl,rfl⟩) (λb Q=> .inl Q)⟩
  ·rw[c]
   exact JL w j _
  ·rw[c]
   refine⟨?_,.inr ⟨j,cap,_,by rw[a],S,setRow_heap w j cur _ ty _ s,by rw[a];exact t,F,?_,?_⟩⟩
   ·simp only[zg,zH,List.length_drop]
    rw[a]
    omega
   ·simp only[List.size_toArray,zg,zH,List.length_drop,qF]
    omega
   ·rw[a, <-E]
    apply qX
    intro m
    simp only[qZ,List.getElem?_append,zH,zg,List.getElem?_drop,qF]
    have I:min (xs.length*e) cur.size=xs.length*e:=by omega
    simp only[I]
    have R:min o (xs.length*e)=o:=by omega
    have l:min o cur.size=o:=by omega
    simp only[R,l]
    by_cases y:m<o
    ·simp[y,show m<o+vs.length by omega,show m<xs.length*e by omega]
    ·by_cases u:m<o+vs.length
     ·simp[y,u,show m<xs.length*e by omega]
     ·have J:o+vs.length+(m - (o+vs.length))=m:=by omega
      simp[u,J]
theorem Zna(z:HOk B w g h)(hB:B<=w.heap.size){t:TypeId}{p y:AV}{u v:Value}{ns:List AV}(M:AR (ctx w g h) p u)(hy:AR (ctx w g h) y v)(T:(zP P t).ok=true)(X:y.cells=some ns)(N:ns.length=(zP P t).sz)
  (b:Zx h ns p=some h'):∃w' g',(Instr.storeAt t u v).run P w= .ok () w'/\Good B w g h w' g' h':=by
 obtain⟨d,i,hu,hi,eq⟩:=jx T
 obtain⟨m,n⟩:=Yf X hy
 have f:v.cells.size=i.size:=by
  have:=wz m
  rw[eq] at N
  simp at this N
  omega
 have q:∀(D off:Nat) (ty:TypeId) (cur:Array Value),w.heap[D]? =some (.cells cur ty (0,0))->off+v.cells.toList.length<=cur.size->
   (Instr.storeAt t (.pointer (some ⟨D,off,none⟩)) v).run P w= .ok () (w.setRow D (cur.toList.take off++v.cells.toList++cur.toList.drop (off+v.cells.toList.length)).toArray):=λD off ty cur hg hb=>by
  have:=run_storeCells_at P D off ty v.cells.toList 0 cur w hg (by simpa using hb) n
  simp only[Nat.add_zero] at this
  simp[Instr.storeAt,Instr.sureAddr,storeVar,sizeOf,typeInfo,hi,f]
  simpa [f] using this
 cases p with
 | ptr id off=>
   simp only[Zx] at b
   split at b
   ·rename_i ty cs l
    cases c:lay cs off ns with
    | none=>rw[c] at b;cases b
    | some cs'=>
      rw[c] at b
      injection b with b
      subst b
      obtain⟨O,vs,Q,R⟩:=z.ok id _ l
      obtain⟨I,U⟩:=KJ R off m c
      obtain⟨_,e⟩:=M
      subst e
      exact⟨_,_,q _ off ty vs Q (by simpa using U),Jba z hB l (by simpa using I)⟩
   ·cases b
 | ep a e j k=>
   cases a<;>try (cases b;done)
   rename_i id st
   simp only[Zx] at b
   split at b
   ·rename_i ty K xs s l
    split at b
    ·rename_i Y
     obtain⟨G,H⟩:=Y
     subst G H
     cases F:xs[j]? with
     | none=>rw[F] at b;cases b
     | some r=>
       rw[F] at b
       simp only[Option.bind_some] at b
       cases c:lay r k ns with
       | none=>rw[c] at b;cases b
       | some r'=>
         rw[c] at b
         injection b with b
         subst b
         have S:eOf h (.tl id s)=some K:=by simp[eOf,l]
         have V:qc h (.tl id s)=some xs:=by simp[qc,l]
         obtain⟨A,cp,O,Q,R,I⟩:=yga z M S V
         subst I
         have E:=Qh O l
         obtain⟨q0,L,cells,q2,q3⟩:=z.ok id _ l
         have J:=Wm L F c
         have C:∀x∈xs.set j r',x.length=K:=λx b=>by
          rcases List.mem_or_eq_of_mem_set b with b|b
          ·exact L x b
          ·subst b;rw[WV c];exact L r (qr F)
         obtain⟨w',g',W,Z⟩:=yha (P:=P) z hB l E.symm (o:=j*K+k) m n J C (by simp)
         refine⟨w',g',?_,Z⟩
         simp[Instr.storeAt,Instr.sureAddr,storeVar,sizeOf,typeInfo,hi,f]
         simpa [f] using W
    ·cases b
   ·cases b
 | _=>cases b
end
section
variable {B:Nat} {w:World} {g:Gh} {h h':List Ob} {P:Program} {x:AV} {T:Nat->AV} {a:Act}
theorem Jy{t ty e:TypeId}{i:TypeInfo}(a:P.underlying t=some (.slice e))(hi:P.info? e=some i)(base:Option Addr)(n cap k:Nat)(b:n<=cap):
  (Builtin.append_ #[t,t] ty #[.slice base n cap,.slice none 0 k]).run P w= .ok (.slice base n cap) w:=by
 cases base<;>simp[Builtin.append_,run_underlying a,sizeOf,typeInfo,hi,Builtin.lenOf,b,Builtin.firstCells,storeCells]
theorem qoa{c:Ctx}{e:Nat}{xs:List (List AV)}{A:Addr}(f:RowsAt w c e xs (some A))(y:∀r∈xs,r.all AV.one=true):
  ∃news:List Value,news.length=xs.length*e/\(∀j u,news[j]? =some u->w.cell? (A.add j)=some u)/\(∀u∈news,u.oneCell'=true)/\ARs c xs.flatten news:=by
 have x:PartAt w c A xs.flatten:=λk a l=>by
  by_cases s:e=0
  ·have:xs.flatten=[]:=by
    apply zF
    rw[vR f.len,s,Nat.mul_zero]
   rw[this] at l;cases l
  ·have g:=(zd.1 l).1
   rw[vR f.len] at g
   have hi:k / e<xs.length:=by rw[Nat.div_lt_iff_lt_mul (by omega)];exact g
   have D:k % e<e:=Nat.mod_lt _ (by omega)
   have d:xs[k / e]? =some xs[k / e]:=zi hi
   have B:xs[k / e].length=e:=f.len _ (zx hi)
   have b:xs[k / e][k % e]? =some xs[k / e][k % e]:=zi (by omega)
   have i:=Z1 f.len d b
   have h:k / e*e+k % e=k:=by rw[Nat.mul_comm];exact Nat.div_add_mod k e
   rw[h,l] at i
   injection i with i
   obtain⟨C,u,m,q,t⟩:=f.cell _ _ _ _ d b
   injection m with m
   subst m
   rw[h] at q
   exact⟨u,q,by rw[i];exact t⟩
 obtain⟨vs,p,z⟩:=x.vals
 refine⟨vs,by rw[<-wz p,vR f.len],z,?_,p⟩
 refine Qp ?_ p
 rw[qa]
 intro a v
 obtain⟨r,o,n⟩:=List.mem_flatten.1 v
 exact qa.1 (y r o) a n
theorem jva{a:Nat}{e:TypeId}{size:Nat}{v:Value}{k:Nat}{xs:List Value}(h:w.ownsRow B e size v k xs)(c:a<=B):w.ownsRow a e size v k xs:=by
 refine⟨h.1,?_⟩
 rcases h.2 with d|⟨g,cap,cur,b,f,r⟩
 ·exact .inl d
 ·exact .inr ⟨g,cap,cur,b,Nat.le_trans c f,r⟩
theorem vxa{t ty e:TypeId}{i:TypeInfo}{z:Value}(p:P.underlying t=some (.slice e))(hi:P.info? e=some i)(B:i.zero=some z)(C:0<i.size)
  {D:Nat} {v:Value} {n:Nat} {xs:List Value} (h:w.ownsRow D e i.size v n xs) {l:Addr} {m c:Nat} {news:List Value} (r:news.length=m*i.size) (a:∀j u,news[j]? =some u->w.cell? (l.add j)=some u) (F:∀u∈news,u.oneCell'=true)
  (x:n+m<=maxLen) (d:(n+m)*i.bytes<=140737488355328) {v':Value} {w':World} (k:(Builtin.append_ #[t,t] ty #[v,.slice (some l) m c]).run P w= .ok v' w') (b:Nat) (s:v'.ownBlock=some b):
  v.ownBlock=some b∨w.heap.size<=b:=by
 have q:n+m<=9223372036854775807:=by simp only[maxLen] at x;omega
 rcases h.2 with⟨rfl,rfl⟩|⟨g,cap,cur,rfl,E,J,G,I,A,y⟩
 ·by_cases H:m=0
  ·subst H
   have:(Builtin.append_ #[t,t] ty #[.slice none 0 0,.slice (some l) 0 c]).run P w= .ok (.slice none 0 0) w:=by
    simp[Builtin.append_,run_underlying p,sizeOf,typeInfo,hi,Builtin.lenOf,Builtin.firstCells,loadCells,loadCellsFrom]
   rw[this] at k
   injection k with e1 e2
   subst e1
   simp[Value.ownBlock] at s
  ·rw[run_append_nil (P:=P) w t ty e i z p hi B l m c news r a (by omega) (by omega) (by simp only[Nat.zero_add] at d;omega)] at k
   injection k with e1 e2
   subst e1
   simp[Value.ownBlock] at s
   exact .inr (by omega)
 ·by_cases f:n+m<=cap
  ·have o:n*i.size+news.length<=cur.size:=by rw[r,A, <-Nat.add_mul];exact Nat.mul_le_mul_right _ f
   rw[run_append_room (P:=P) w t ty e i p hi g n cap cur J l m c news r a F f o] at k
   injection k with e1 e2
   subst e1
   exact .inl s
  ·have holds:∀j u,xs[j]? =some u->w.cell? ((⟨g,0,none⟩:Addr).add j)=some u:=h.cells (g:=g) rfl
   rw[run_append_grow (P:=P) w t ty e i z p hi B ⟨g,0,none⟩ n cap xs h.1 holds l m c news r a (by omega) (by omega) (growslice_fits (by omega) d)] at k
   injection k with e1 e2
   subst e1
   simp[Value.ownBlock] at s
   exact .inr (by omega)
theorem vya(W:HOk B w g h)(hB:B<=w.heap.size){t ty e:TypeId}{s y:AV}{u v:Value}(hs:AR (ctx w g h) s u)(hy:AR (ctx w g h) y v)(M:(zP P t).kind= .slice e)(a:QW P h e s y=some (x,h')):
  DidV P (Builtin.append_ #[t,t] ty #[u,v]) B w g h x h':=by
 obtain⟨d,it,Y,hit,eq⟩:=jx (jB M (by simp))
 rw[eq] at M
 cases d<;>try (cases M;done)
 injection M with M
 subst M
 rename_i e
 unfold QW at a
 cases o:qc h y with
 | none=>simp[o] at a
 | some ys=>
   simp only[o,Option.bind_some] at a
   split at a
   ·rename_i hc
    obtain⟨ho,h0,U,L⟩:=hc
    obtain⟨d',i,ω,hi,G⟩:=jx ho
    have ρ:(zP P e).sz=i.size:=by rw[G]
    have υ:(zP P e).bytes=i.bytes:=by rw[G]
    rw[ρ] at h0 L U a
    rw[υ] at a
    cases q:i.zero with
    | none=>rw[G] at U;simp[q] at U
    | some z=>
      rw[G] at U
      have γ:z.cells.size=i.size:=by simpa [q] using U
      have c:∀r∈ys,r.length=i.size/\r.all AV.one=true:=λr o=>by
       have:=qa.1 L r o
       simpa only[zq,beq_iff_eq] using this
      obtain⟨A,k,e1,e2,e3,e4⟩:=wA W _ hy o
      subst e1
      have D:(∃m,A=some m)->∃m news,A=some m/\news.length=ys.length*i.size/\(∀j u,news[j]? =some u->w.cell? (m.add j)=some u)/\(∀u∈news,u.oneCell'=true)/\ARs (ctx w g h) ys.flatten news:=by
       rintro ⟨m,rfl⟩
       cases f:ys with
       | nil=>exact⟨m,[],rfl,by simp,by simp,by simp,rfl⟩
       | cons r rs=>
         cases T:eOf h y with
         | none=>rw[e4 T] at f;cases f
         | some X=>
           have H:=e3 X T
           have σ:X=i.size:=by rw[<-H.len r (by rw[f];simp),(c r (by rw[f];simp)).1]
           subst σ
           obtain⟨news,n1,n2,n3,n4⟩:=qoa H λr o=>(c r o).2
           rw[<-f]
           exact⟨m,news,rfl,n1,n2,n3,n4⟩
      have C:A=none->ys=[]:=λJ=>by
       cases f:ys with
       | nil=>rfl
       | cons r rs=>
         cases T:eOf h y with
         | none=>rw[e4 T] at f;cases f
         | some X=>
           have H:=e3 X T
           have hr0:=(c r (by rw[f];simp)).1
           obtain⟨m,u,q1,_⟩:=H.cell 0 0 r (nth r 0) (by rw[f];rfl) (Z0 (by omega))
           rw[J] at q1;cases q1
      split at a
      ·rename_i id st
       split at a
       ·rename_i E X xs s p
        split at a
        ·rename_i ο
         obtain⟨c1,c2,c3,V⟩:=ο
         subst c1 c2 c3
         injection a with a
         injection a with hx1 hx2
         subst hx1 hx2
         have n:=Qh hs p
         obtain⟨q0,q1,cells,q2,q3⟩:=W.ok id _ p
         have F:w.ownsRow B E i.size (g.cur id) xs.length cells:=q2
         rw[<-n] at F
         have ζ:xs.length+ys.length<=140737488355328:=Nat.le_trans (Nat.le_mul_of_pos_right _ (by omega)) V
         have I:(xs.length+ys.length)*i.bytes<=140737488355328:=Nat.le_trans (Nat.mul_le_mul_left _ (by omega)) V
         have μ:∀x∈xs++ys,x.length=i.size:=λx a=>by
          rcases zI.1 a with a|a
          ·exact q1 x a
          ·exact(c x a).1
         have fin:∀(v':Value) (w':World) (l:List Value),w'.ownsRow B E i.size v' (xs++ys).length l->ARs (ctx w g h) (xs++ys).flatten l->w.grownBy w' (g.cur id).ownBlock->(∀b,v'.ownBlock=some b->(g.cur id).ownBlock=some b∨w.heap.size<=b)->
           Good B w g h w' ⟨g.β,λj=>if j=id then v' else g.cur j⟩ (h.set id (.row E i.size (xs++ys) (s+1)))/\AR (ctx w' ⟨g.β,λj=>if j=id then v' else g.cur j⟩ (h.set id (.row E i.size (xs++ys) (s+1)))) (.tl id (s+1)) v':=λv' w' l Q S K r4=>by
          refine⟨Zv W hB p μ K Q S (.inr (by omega)) r4,?_,⟨_,zo (vP p),rfl⟩,λs' τ=>?_⟩
          ·obtain⟨A,cp,e1,_⟩:=yo Q;exact⟨A,_,cp,e1⟩
          ·have:s+1=s':=by
            have:=τ
            simp only[ctx,zo (vP p),Ob.tok,Option.some.injEq] at this
            exact this
           exact⟨by omega,λ_=>by simp[ctx]⟩
         cases J:A with
         | none=>
           have O:=C J
           subst O
           obtain⟨A0,cp,z1,z2⟩:=yo F
           have o:=Jy (P:=P) (w:=w) (ty:=ty) Y hi A0 xs.length cp k z2
           rw[<-z1] at o
           obtain⟨R,N⟩:=fin u w cells (by simpa using F) (by simpa using q3) ⟨rfl,rfl,rfl,zp _,λ_ _ _=>rfl⟩ (λb Z=> .inl (by have e:u=g.cur id:=n;rw[<-e];exact Z))
           exact⟨_,_,_,by simpa using o,R,N⟩
         | some m=>
           obtain⟨ι,news,n1,n2,n3,n4,n5⟩:=D ⟨m,J⟩
           rw[J] at n1
           injection n1 with n1
           subst n1
           obtain⟨v',w',Q,S,K,r4⟩:=run_append_own (P:=P) w B t ty E i z i.size i.bytes Y hi q rfl rfl γ h0 u xs.length cells F m ys.length k news n2 n3 n4 (by simp only[maxLen];omega) I hB
           have κ:w.grownBy w' (g.cur id).ownBlock:=by have e:u=g.cur id:=n;rw[<-e];exact K
           obtain⟨R,N⟩:=fin v' w' (cells++news) (by rw[zg];exact S) (by rw[List.flatten_append];exact vQ q3 n5) κ (λb Z=>by
            rcases vxa (P:=P) (w:=w) Y hi q h0 F n2 n3 n4 (by simp only[maxLen];omega) I Q b Z with h9|h9
            ·have e:u=g.cur id:=n
             exact .inl (by rw[<-e];exact h9)
            ·exact .inr h9)
           exact⟨_,_,_,Q,R,N⟩
        ·cases a
       ·cases a
      ·split at a
       ·rename_i V
        injection a with a
        injection a with hx1 hx2
        subst hx1 hx2
        have hs:u= .slice none 0 0:=hs
        subst hs
        have ζ:ys.length<=140737488355328:=Nat.le_trans (Nat.le_mul_of_pos_right _ (by omega)) V
        have I:ys.length*i.bytes<=140737488355328:=Nat.le_trans (Nat.mul_le_mul_left _ (by omega)) V
        cases J:A with
        | none=>
          have O:=C J
          subst O
          have o:=Jy (P:=P) (w:=w) (ty:=ty) Y hi none 0 0 k (zp _)
          obtain⟨R,N⟩:=JM W hB (ty:=e) h0 (xs:=[]) (by simp) 0 (Below.refl _ w) (World.ownsRow_nil w B e i.size) rfl (by simp[Value.ownBlock])
          exact⟨_,_,_,by simpa using o,R,N⟩
        | some m=>
          obtain⟨ι,news,n1,n2,n3,n4,n5⟩:=D ⟨m,J⟩
          rw[J] at n1
          injection n1 with n1
          subst n1
          obtain⟨v',w',Q,S,K,r4⟩:=run_append_own (P:=P) w w.heap.size t ty e i z i.size i.bytes Y hi q rfl rfl γ h0 (.slice none 0 0) 0 [] (World.ownsRow_nil w _ e i.size) m ys.length k news n2 n3 n4 (by simp only[maxLen];omega) (by simpa using I) (zp _)
          have α:Below w.heap.size w w':=⟨K.os,K.tape,K.output,K.size,λk M=>K.block k M (by simp[Value.ownBlock])⟩
          obtain⟨R,N⟩:=JM W hB (ty:=e) h0 (λx a=>(c x a).1) 0 α (jva (by simpa using S) hB) n5 (λb Z=>(World.ownsRow.lt S b Z).1)
          exact⟨_,_,_,Q,R,N⟩
       ·cases a
      ·cases a
   ·cases a
end
