import Derived.Test.YtjeehgkolepogaaGreatK00
import Derived.Laws.CopyRow
import Derived.Great.BuildSlice
import Derived.Laws.OwnMore
set_option linter.all false
namespace Go.Proofs.YtjeehgkolepogaaGreat.Ax
open Go Go.RowKit
def Vg:Nat->List AV
 | 0=>[]
 | n+1=> .bad::Vg n
def yD(e:Nat):Nat->List AV->List (List AV)
 | 0,_=>[]
 | n+1,l=>l.take e::yD e n (l.drop e)
def vC(place:Nat->Option (Nat × Nat))(aZ:List AV):List (Nat × AV)->Option (List AV)
 | []=>some aZ
 | (i,a)::r=>match place i,a.cells with
   | some (off,size),some c=>if c.length=size then(lay aZ off c).bind λb=>vC place b r else none
   | _,_=>none
def ZC(P:Program)(a:List (Nat × TypeId))(i:Nat):Option (Nat × Nat):=a[i]?.map λf=>(f.1,(zF P f.2).sz)
def wi(sz:Nat)(i:Nat):Option (Nat × Nat):=some (i*sz,sz)
def evs(T:Nat->AV):List (Nat × Operand)->List (Nat × AV)
 | []=>[]
 | (i,x)::r=>(i,ev T x)::evs T r
def evl(T:Nat->AV):List Operand->List AV
 | []=>[]
 | x::r=>ev T x::evl T r
def xc:List AV->List AV->Option Bool
 | [],[]=>some true
 | .v (.int k a)::r,.v (.int k' b)::s=>if k=k' then(xc r s).map λt=>a==b && t else none
 | _,_=>none
def vd(P:Program):Nat->List (Nat × TypeId)->Bool
 | _,[]=>true
 | o,f::r=>f.1==o && (match (zF P f.2).kind with | .int _=>true|_=>false) && vd P (o+1) r
def vda(P:Program)(e:TypeId):Bool:=(match (zF P e).kind with | .int _=>true|_=>false) && (zF P e).sz==1
def j5(P:Program)(t:TypeId):Bool:= !P.eqGuardType P.depth t && !P.stoodInHeld t && (P.fieldsOf t).toList.all λf=>f.name != "_"
def YO:BinOp->Bool
 | .shl | .shr=>true
 | _=>false
def Wy(op:BinOp)(k:IntKind)(a b:Int):Option AV:=match op with
 | .shr=>some (.v (.int k (a.fdiv (2 ^ min b.toNat k.bits))))
 | .shl=>some (.v (.int k (k.wrap (a*2 ^ min b.toNat k.bits))))
 | _=>none
def Wz(op:BinOp)(k:IntKind)(a b:Int):Option AV:=match op with
 | .add=>some (.v (.int k (k.wrap (a+b))))
 | .sub=>some (.v (.int k (k.wrap (a - b))))
 | .mul=>some (.v (.int k (k.wrap (a*b))))
 | .or=>some (.v (.int k (k.wrap ((BitVec.ofInt k.bits a ||| BitVec.ofInt k.bits b).toNat:Int))))
 | .quo=>if b=0 then none else some (.v (.int k (k.wrap (a.tdiv b))))
 | .rem=>if b=0 then none else some (.v (.int k (a.tmod b)))
 | .eql=>some (.v (.bool (a==b)))
 | .neq=>some (.v (.bool (a != b)))
 | .lss=>some (.v (.bool (decide (a<b))))
 | .leq=>some (.v (.bool (decide (a<=b))))
 | .gtr=>some (.v (.bool (decide (a>b))))
 | .geq=>some (.v (.bool (decide (a≥b))))
 | _=>none
def qEa(P:Program)(op:BinOp)(t:TypeId):AV->AV->Option AV
 | .v (.int k a),.v (.int k' b)=>if YO op then(if 0<=b then Wy op k a b else none) else if k=k' then Wz op k a b else none
 | .v (.bool a),.v (.bool b)=>match (zF P t).kind,op with
   | .bool,.eql=>some (.v (.bool (a==b)))
   | .bool,.neq=>some (.v (.bool (!(a==b))))
   | _,_=>none
 | .ag xs,.ag ys=>match (zF P t).kind,op with
   | .struct c,.eql=>if j5 P t && vd P 0 c && xs.length==c.length then(xc xs ys).map λb=> .v (.bool b) else none
   | .struct c,.neq=>if j5 P t && vd P 0 c && xs.length==c.length then(xc xs ys).map λb=> .v (.bool (!b)) else none
   | .arr n e,.eql=>if j5 P t && vda P e && xs.length==n then(xc xs ys).map λb=> .v (.bool b) else none
   | _,_=>none
 | .v (.pointer none),.v (.pointer none)=>match (zF P t).kind,op with
   | .ptr _,.eql=>some (.v (.bool true))
   | .ptr _,.neq=>some (.v (.bool false))
   | _,_=>none
 | .ptr _ _,.v (.pointer none)=>match (zF P t).kind,op with
   | .ptr _,.eql=>some (.v (.bool false))
   | .ptr _,.neq=>some (.v (.bool true))
   | _,_=>none
 | .v (.string a),.v (.string b)=>match op with
   | .eql=>some (.v (.bool (a.toList==b.toList)))
   | .neq=>some (.v (.bool (!(a.toList==b.toList))))
   | _=>none
 | _,_=>none
def zsa:List (List AV)->Option (List UInt8)
 | []=>some []
 | [.v (.int .u8 n)]::r=>(zsa r).map (UInt8.ofNat n.toNat:: ·)
 | _=>none
def xLa(P:Program)(s:TypeId)(rows:List (List AV)):Option AV:=match (zF P s).kind with
 | .slice e=>match (zF P e).kind with
   | .int .u8=>(zsa rows).map λl=> .v (.string ⟨l.toArray⟩)
   | _=>none
 | _=>none
def Vh:AV->List AV->Option AV
 | a,[]=>some a
 | .v (.int k x),.v (.int _ y)::r=>Vh (.v (.int k (if y>x then y else x))) r
 | _,_=>none
def Vi:AV->List AV->Option AV
 | a,[]=>some a
 | .v (.int k x),.v (.int _ y)::r=>Vi (.v (.int k (if y<x then y else x))) r
 | _,_=>none
def yE(h:List Ob)(τ:Ty):AV->Option AV
 | .ptr id off=>match h[id]? with
   | some (.box _ b)=>if τ.ok then part b off τ.agg τ.sz else none
   | _=>none
 | .ep a e i k=>if τ.ok/\eOf h a=some e then(zI h a).bind λxs=>xs[i]?.bind λr=>part r k τ.agg τ.sz else none
 | _=>none
def wj(h:List Ob)(b:List AV):AV->Option (List Ob)
 | .ptr id off=>match h[id]? with
   | some (.box ty f)=>(lay f off b).map λa=>h.set id (.box ty a)
   | _=>none
 | .ep (.tl id st) e i k=>match h[id]? with
   | some (.row ty c xs s)=>if s=st/\c=e then xs[i]?.bind λr=>(lay r k b).map λd=>h.set id (.row ty e (xs.set i d) st) else none
   | _=>none
 | _=>none
def WA(h:List Ob)(n:Int)(a:AV):Option AV:=
 (zI h a).bind λxs=>(eOf h a).bind λe=>if 0<=n/\n<xs.length then some (.ep a e n.toNat 0) else none
def yk(P:Program)(h:List Ob)(e:TypeId)(s x:AV):Option (AV × List Ob):=
 let τ:=zF P e
 (zI h x).bind λys=>
  if τ.ok/\0<τ.sz/\(τ.zero.map List.length)=some τ.sz/\ys.all (λr=>r.length==τ.sz && r.all AV.one) then
   match s with
   | .tl id st=>match h[id]? with
     | some (.row ty a xs s)=>if s=st/\ty=e/\a=τ.sz/\(xs.length+ys.length)*(τ.bytes+1)<=140737488355328 then some (.tl id (st+1),h.set id (.row ty a (xs++ys) (st+1))) else none
     | _=>none
   | .v (.slice none 0 0)=>if ys.length*(τ.bytes+1)<=140737488355328 then some (.tl h.length 0,h++[.row e τ.sz ys 0]) else none
   | _=>none
  else none
def vea:AV->Bool
 | .em=>true
 | _=>false
def Qn:AV->Bool
 | .v (.slice none _ _)=>true
 | _=>false
def Kz:Option (List (List AV))->Option Nat->Bool
 | some (_::_),some e=>decide (0<e)
 | _,_=>false
def ZD(h:List Ob)(a:AV):Bool:=vea a || Kz (zI h a) (eOf h a)
def Jt(op:BinOp)(b:Bool):Option AV:=match op with
 | .eql=>some (.v (.bool b))
 | .neq=>some (.v (.bool (!b)))
 | _=>none
def Vj(P:Program)(h:List Ob)(op:BinOp)(t:TypeId)(a:AV):Option AV:=match (zF P t).kind with
 | .slice _=>if Qn a then Jt op true else if ZD h a then Jt op false else none
 | _=>none
def Zb:Operand->Bool
 | .const (.slice none _ _)=>true
 | _=>false
def xr(h:List Ob):AV->Option (Nat × Nat × Nat × Nat)
 | .tl id st=>match h[id]? with
   | some (.row _ _ xs s)=>if s=st then some (id,st,0,xs.length) else none
   | _=>none
 | .vw (.tl id st) e i n=>match h[id]? with
   | some (.row _ a xs s)=>if s=st/\a=e/\i+n<=xs.length then some (id,st,i,n) else none
   | _=>none
 | _=>none
def xf(xs:List (List AV))(i:Nat)(ys:List (List AV)):List (List AV):=xs.take i++ys++xs.drop (i+ys.length)
def xL(h:List Ob)(id i:Nat)(ty e:Nat)(ys:List (List AV)):Option (List Ob):=match h[id]? with
 | some (.row a b xs st)=>if a=ty/\b=e/\ys.all (λr=>r.length==e && r.all AV.one) then some (h.set id (.row a b (xf xs i ys) st)) else none
 | _=>none
def wY(P:Program)(T:Nat->AV)(h:List Ob)(c:Call):Option (AV × List Ob):=
 match c.callee,c.args.toList,c.argTypes.toList with
 | .builtin .len,[x],[t]=>match (zF P t).kind with
   | .slice _=>(zI h (ev T x)).map λxs=>(.v (.int .i64 xs.length),h)
   | _=>none
 | .builtin .append,[s,x],[t,a]=>match (zF P t).kind with
   | .slice e=>if a=t then yk P h e (ev T s) (ev T x) else none
   | _=>none
 | .builtin .clear,[x],[t]=>match (zF P t).kind with
   | .slice e=>(xr h (ev T x)).bind λ(id,_,i,n)=>(zF P e).zero.bind λz=>
     if(zF P e).ok/\z.length=(zF P e).sz then(xL h id i e (zF P e).sz (List.replicate n (z.map .v))).map λh'=>(.tup [],h') else none
   | _=>none
 | .builtin .copy,[d,x],[t,a]=>match (zF P t).kind with
   | .slice e=>if a=t/\(zF P e).ok/\0<(zF P e).sz then(xr h (ev T d)).bind λ(id,_,i,n)=>(zI h (ev T x)).bind λys=>
     (xL h id i e (zF P e).sz (ys.take n)).map λh'=>(.v (.int .i64 ((ys.take n).length:Nat)),h') else none
   | _=>none
 | .builtin .max,x::r,_=>(Vh (ev T x) (evl T r)).map (·,h)
 | .builtin .min,x::r,_=>(Vi (ev T x) (evl T r)).map (·,h)
 | _,_,_=>none
def YP(τ:Ty):Option AV:=if τ.one then τ.zero.bind λz=>z.head?.map .v else none
def ji(P:Program)(T:Nat->AV):Op->Option (Ob × (Nat->AV))
 | .alloc t=>if(zF P t).ok then(zF P t).zero.map λz=>(.box t (z.map .v),λi=> .ptr i 0) else none
 | .box t x=>(ev T x).cells.map λa=>(.box t a,λi=> .ptr i 0)
 | .buildSlice t n b=>match (zF P t).kind with
   | .slice e=>if(zF P e).ok/\0<(zF P e).sz/\n*(zF P e).sz<=16777216/\(zF P e).zero.isSome then
     (vC (wi (zF P e).sz) (Vg (n*(zF P e).sz)) (evs T b.toList)).map λa=>(.row e (zF P e).sz (yD (zF P e).sz n a) 0,λi=> .tl i 0) else none
   | _=>none
 | .makeSlice t l c=>match (zF P t).kind,ev T l,ev T c with
   | .slice e,.v (.int _ n),.v (.int _ m)=>if n=m/\0<=n/\n*((zF P e).bytes+1)<=140737488355328/\(zF P e).ok/\0<(zF P e).sz/\((zF P e).zero.map List.length)=some (zF P e).sz then
     (zF P e).zero.map λz=>(.row e (zF P e).sz (List.replicate n.toNat (z.map .v)) 0,λi=> .tl i 0) else none
   | _,_,_=>none
 | .makeMap t none=>match (zF P t).kind with
   | .mapk _ _=>some (.mapo [],λi=> .mp i)
   | _=>none
 | _=>none
def xu:AV × AV->Int
 | (.v (.int _ m),_)=>m
 | _=>0
def xC(kk:IntKind):List (AV × AV)->Bool
 | []=>true
 | (.v (.int k _),_)::r=>k==kk && xC kk r
 | _=>false
def jy(kk:IntKind)(n:Int)(v:AV):List (AV × AV)->List (AV × AV)
 | []=>[(.v (.int kk n),v)]
 | p::r=>if n<xu p then(.v (.int kk n),v)::p::r else p::jy kk n v r
def xj(n:Int):List (AV × AV)->Bool
 | []=>false
 | p::r=>xu p==n || xj n r
def jK(kk:IntKind)(n:Int)(v:AV):List (AV × AV)->List (AV × AV)
 | []=>[]
 | p::r=>(if xu p=n then(.v (.int kk n),v) else p)::jK kk n v r
def yG(kk:IntKind)(n:Int)(v:AV)(es:List (AV × AV)):Option (List (AV × AV)):=
 if xC kk es then some (if xj n es then jK kk n v es else jy kk n v es) else none
def yF(n:Int)(z:AV):List (AV × AV)->AV × Bool
 | []=>(z,false)
 | p::r=>(if xu p=n then p.2 else(yF n z r).1,xu p==n || (yF n z r).2)
def Vk(kk:IntKind)(n:Int)(z:AV)(es:List (AV × AV)):Option (AV × Bool):=if xC kk es then some (yF n z es) else none
def wC(T:Nat->AV)(d:Int):Option Operand->Option Int
 | none=>some d
 | some x=>match ev T x with
   | .v (.int _ n)=>some n
   | _=>none
def zO(P:Program)(T:Nat->AV)(h:List Ob):Op->Option (AV × List Ob)
 | .move x=>some (ev T x,h)
 | .assign x=>some (ev T x,h)
 | .pick c a b=>match ev T c with
   | .v (.bool t)=>some (if t then ev T a else ev T b,h)
   | _=>none
 | .alloc t=>(ji P T (.alloc t)).map λq=>(q.2 h.length,h++[q.1])
 | .box t x=>(ji P T (.box t x)).map λq=>(q.2 h.length,h++[q.1])
 | .buildSlice t n o=>(ji P T (.buildSlice t n o)).map λq=>(q.2 h.length,h++[q.1])
 | .makeSlice t l c=>(ji P T (.makeSlice t l c)).map λq=>(q.2 h.length,h++[q.1])
 | .makeMap t r=>(ji P T (.makeMap t r)).map λq=>(q.2 h.length,h++[q.1])
 | .build t o=>match (zF P t).kind with
   | .struct j=>if j.all (λf=>(zF P f.2).ok) then(zF P t).zero.bind λz=>(vC (ZC P j) (z.map .v) (evs T o.toList)).map λg=>(.ag g,h) else none
   | .arr _ e=>if(zF P e).ok then(zF P t).zero.bind λz=>(vC (wi (zF P e).sz) (z.map .v) (evs T o.toList)).map λg=>(.ag g,h) else none
   | _=>none
 | .load t a=>(yE h (zF P t) (ev T a)).map (·,h)
 | .store t a x=>if(zF P t).ok then(ev T x).cells.bind λw=>if w.length=(zF P t).sz then(wj h w (ev T a)).map λh'=>(.v undef,h') else none else none
 | .nilCheck x=>match ev T x with
   | .ptr id off=>some (.ptr id off,h)
   | .ep a e i k=>some (.ep a e i k,h)
   | .fn (.func f) a b=>some (.fn (.func f) a b,h)
   | _=>none
 | .binOp op t x y _=>(if Zb y then Vj P h op t (ev T x) else qEa P op t (ev T x) (ev T y)).map (·,h)
 | .unOp op _ x=>match op,ev T x with
   | .neg,.v (.int k n)=>some (.v (.int k (k.wrap (0 - n))),h)
   | .not,.v (.bool b)=>some (.v (.bool (!b)),h)
   | _,_=>none
 | .convert s d x=>match (zF P s).ok,(zF P d).kind,ev T x with
   | true,.int k,.v (.int _ n)=>some (.v (.int k (k.wrap n)),h)
   | true,.str,.sl 1 rows=>(xLa P s rows).map (·,h)
   | _,_,_=>none
 | .makeFunc f a b=>some (.fn f (evl T a.toList) (evl T b.toList),h)
 | .fieldAddr t x i=>match (zF P t).kind with
   | .struct j=>j[i]?.bind λf=>if(zF P f.2).ok/\0<(zF P f.2).sz then(match ev T x with
     | .ptr id off=>some (.ptr id (off+f.1),h)
     | .ep a e i k=>some (.ep a e i (k+f.1),h)
     | _=>none) else none
   | _=>none
 | .field t x i=>match (zF P t).kind,ev T x with
   | .struct j,.ag g=>j[i]?.bind λf=>if(zF P f.2).ok then(part g f.1 (zF P f.2).agg (zF P f.2).sz).map (·,h) else none
   | _,_=>none
 | .indexAddr t x i=>match (zF P t).kind,ev T i with
   | .slice e,.v (.int _ n)=>if(zF P e).ok/\0<(zF P e).sz/\eOf h (ev T x)=some (zF P e).sz then(WA h n (ev T x)).map (·,h) else none
   | .arr m e,.v (.int _ n)=>if(zF P e).ok/\0<=n/\n<m then(match ev T x with
     | .ptr id off=>some (.ptr id (off+n.toNat*(zF P e).sz),h)
     | .ep a A i k=>some (.ep a A i (k+n.toNat*(zF P e).sz),h)
     | _=>none) else none
   | _,_=>none
 | .index t x i=>match (zF P t).kind,ev T x,ev T i with
   | .arr m e,.ag g,.v (.int _ n)=>if(zF P e).ok/\0<=n/\n<m then(part g (n.toNat*(zF P e).sz) (zF P e).agg (zF P e).sz).map (·,h) else none
   | _,_,_=>none
 | .slice t x lo hi none=>match (zF P t).kind with
   | .slice e=>(zI h (ev T x)).bind λxs=>(wC T 0 lo).bind λl=>(wC T xs.length hi).bind λm=>
     if(zF P e).ok/\0<=l/\l<=m/\m<=xs.length/\(l=m∨(0<(zF P e).sz/\eOf h (ev T x)=some (zF P e).sz)) then some (.vw (ev T x) (zF P e).sz l.toNat (m.toNat - l.toNat),h) else none
   | _=>none
 | .insert t m k v=>match (zF P t).kind,ev T m,ev T k with
   | .mapk u _,.mp id,.v (.int kk n)=>match (zF P u).kind,h[id]? with
     | .int kk',some (.mapo es)=>if kk'=kk then(yG kk n (ev T v) es).map λes'=>(.v undef,h.set id (.mapo es')) else none
     | _,_=>none
   | _,_,_=>none
 | .lookup t m k ok=>match (zF P t).kind,ev T m,ev T k with
   | .mapk u B,.mp id,.v (.int kk n)=>match (zF P u).kind,h[id]?,YP (zF P B) with
     | .int kk',some (.mapo es),some z=>if kk'=kk then(Vk kk n z es).map λp=>(if ok then .tup [p.1,.v (.bool p.2)] else p.1,h) else none
     | _,_,_=>none
   | _,_,_=>none
 | .extract x i=>match ev T x with
   | .tup g=>if i<g.length then some (nth g i,h) else none
   | _=>none
 | .call c=>wY P T h c
 | _=>none
section
variable {c:Ctx}
def Vl:∀(vs:List Value),ARs c (Vg vs.length) vs
 | []=>rfl
 | v::r=>⟨v,r,rfl,trivial,Vl r⟩
def fold_set(off:Nat):∀(a:List Value) (k:Nat) (cells:Array Value),off+k+a.length<=cells.size->
    ((a.zipIdx k).foldl (λd (p:Value × Nat)=>d.setIfInBounds (off+p.2) p.1) cells).toList=cells.toList.take (off+k)++a++cells.toList.drop (off+k+a.length)
 | [],k,cells,_=>zh
 | u::a,k,cells,h=>by
   have h:off+k+(a.length+1)<=cells.size:=(by simpa using h);rw[List.zipIdx_cons,List.foldl_cons,fold_set off a (k+1) _ zE];apply qz;intro j;simp only[Array.toList_setIfInBounds,List.getElem?_append,zT,qP,xi,zp,List.length_cons];by_cases b:j<off+k
   ·simp[b,show j<off+(k+1) by omega,show min (off+(k+1)) cells.size=off+(k+1) by omega,show min (off+k) cells.size=off+k by omega,show j<off+(k+1)+a.length by omega,show j<off+k+(a.length+1) by omega,show off+k≠j by omega]
   ·by_cases e:j=off+k
    ·subst e;simp[show min (off+(k+1)) cells.size=off+(k+1) by omega,show min (off+k) cells.size=off+k by omega,show off+k<off+(k+1) by omega,show off+k<off+(k+1)+a.length by omega,show off+k<cells.size by omega]
    ·by_cases c:j<off+k+(a.length+1)
     ·simp[b,c,show ¬ j<off+(k+1) by omega,show min (off+(k+1)) cells.size=off+(k+1) by omega,show min (off+k) cells.size=off+k by omega,show j<off+(k+1)+a.length by omega,show j - (off+k)=(j - (off+(k+1)))+1 by omega]
     ·simp[b,c,show ¬ j<off+(k+1)+a.length by omega,show min (off+(k+1)) cells.size=off+(k+1) by omega,show min (off+k) cells.size=off+k by omega];rw[zf zb];rw[show off+(k+1)+a.length+(j - (off+(k+1)+a.length))=j by omega,show off+k+(a.length+1)+(j - (off+k+(a.length+1)))=j by omega];simp
def vfa(c:Ctx):List (Nat × AV)->List (Nat × Value)->Prop
 | [],b=>b=[]
 | (i,a)::r,b=>∃v q,b=(i,v)::q/\AR c a v/\vfa c r q
def fill_rel(place:Nat->Option (Nat × Nat)):∀(t:List (Nat × AV)) (d:List (Nat × Value)) (aZ rs:List AV) (cells:Array Value),vfa c t d->ARs c aZ cells.toList->vC place aZ t=some rs->
    ∃b,Instr.fill place cells d=some b/\ARs c rs b.toList
 | [],d,aZ,rs,cells,o,l,h=>by
   have o:d=[]:=o;subst o;injection h with h;subst h;exact⟨cells,rfl,l⟩
 | (i,a)::r,d,aZ,rs,cells,⟨v,q,z,w,C⟩,l,h=>by
   subst z;simp only[vC] at h;split at h
   ·rename_i off size e j g;split at h
    ·rename_i p;cases f:lay aZ off e with
     | none=>rw[f] at h;cases h
     | some n=>
       rw[f] at h;obtain⟨s,F⟩:=Jr g w
       have k:v.cells.size=size:=by
        have:=wz s;simp at this;omega
       obtain⟨u,B⟩:=Z0 l off s f;have D:off+v.cells.size<=cells.size:=(by simpa using B);have E:=fold_set off v.cells.toList 0 cells (by simpa using D)
       have m:(v.cells.zipIdx.foldl (λe (x:Value × Nat)=>e.setIfInBounds (off+x.2) x.1) cells).toList=cells.toList.take off++v.cells.toList++cells.toList.drop (off+v.cells.toList.length):=by
        rw[<-Array.foldl_toList,Array.toList_zipIdx];simpa using E
       obtain⟨b,y,A⟩:=fill_rel place r q n rs (v.cells.zipIdx.foldl (λe (x:Value × Nat)=>e.setIfInBounds (off+x.2) x.1) cells) C (by rw[m];exact u) h;refine⟨b,?_,A⟩;simp only[Instr.fill,j,k];rw[if_neg zE];exact y
    ·cases h
   ·cases h
def Zt(e:Nat):∀(n:Nat) (l:List AV),l.length=n*e->(yD e n l).flatten=l/\(∀x∈yD e n l,x.length=e)/\(yD e n l).length=n
 | 0,l,h=>by
   have:l=[]:=zy (by simpa using h);subst this;simp[yD]
 | n+1,l,h=>by
   rw[Nat.succ_mul] at h;obtain⟨b,d,c⟩:=Zt e n (l.drop e) zE;refine⟨by simp[yD,b],λx a=>?_,by simp[yD,c]⟩;simp only[yD,zK] at a;rcases a with rfl|a
   ·simp;omega
   ·exact d x a
end
section
variable {B:Nat} {w:World} {g:Gh} {h h':List Ob} {P:Program} {T:Nat->AV} {a:Act} {x:AV}
def Did(P:Program)(s:Sem Next)(B:Nat)(w:World)(g:Gh)(h:List Ob)(x:AV)(h':List Ob):Prop:=
 ∃a v w' g',s.run P w= .ok a w'/\(a= .value v∨(a= .skip/\v=undef))/\Good B w g h w' g' h'/\AR (ctx w' g' h') x v
def DidV(P:Program)(s:Sem Value)(B:Nat)(w:World)(g:Gh)(h:List Ob)(x:AV)(h':List Ob):Prop:=
 ∃v w' g',s.run P w= .ok v w'/\Good B w g h w' g' h'/\AR (ctx w' g' h') x v
def DidV.did{s:Sem Value}(d:DidV P s B w g h x h'):Did P (do pure (.value (<-s))) B w g h x h':=by
 obtain⟨v,w',g',a,c,b⟩:=d;exact⟨.value v,v,w',g',by simp[a],.inl rfl,c,b⟩
def jk{s:Sem Value}{v:Value}(b:HOk B w g h)(hB:B<=w.heap.size)(c:s.run P w= .ok v w)(a:AR (ctx w g h) x v):DidV P s B w g h x h:=
 ⟨v,w,g,c,Good.refl b hB,a⟩
def wM(c:Ctx)(T:Nat->AV)(a:Act):Prop:=∀i,AR c (T i) (a.tmps.getD i undef)
def jt{c:Ctx}(b:wM c T a):∀(x:Operand),AR c (ev T x) (a.eval x)
 | .tmp i=>b i
 | .const x=>vca x
 | .func f=>⟨#[], #[],rfl,rfl,rfl⟩
 | .global _=>trivial
def wl{c:Ctx}(b:wM c T a){x:Operand}{u:Value}(e:ev T x= .v u):a.eval x=u:=by
 have:=jt b x;rw[e] at this;exact this
def ZE{c:Ctx}(b:wM c T a):∀(l:List Operand),ARs c (evl T l) (l.map a.eval)
 | []=>rfl
 | x::r=>⟨_,_,rfl,jt b x,ZE b r⟩
def Jf{c:Ctx}(b:wM c T a):∀(l:List (Nat × Operand)),vfa c (evs T l) (l.map λ(i,x)=>(i,a.eval x))
 | []=>rfl
 | (i,x)::r=>⟨_,_,rfl,jt b x,Jf b r⟩
def KA{t:TypeId}{z:List Value}(h:(zF P t).zero=some z):(zF P t).ok=true:=by
 unfold zF at h⊢;split at h
 ·rfl
 ·cases h
def qW{t:TypeId}{k:K}(h:(zF P t).kind=k)(a:k≠ .other):(zF P t).ok=true:=by
 unfold zF at h⊢;split at h
 ·rfl
 ·exact absurd h.symm a
def Ju{t:TypeId}{i:TypeInfo}{z:Value}(hi:P.info? t=some i)(a:i.zero=some z):(zeroValue t).run P w= .ok z w:=by simp[zeroValue,typeInfo,hi,a]
inductive Made (B:Nat) (w:World) (g:Gh) (h:List Ob) (w':World) (v:Value):Ob->(Nat->AV)->Prop where
 | box (ty:TypeId) (cs:List AV) (vs:Array Value) (hw:w'=w.alloc (.cells vs ty)) (hv:v= .pointer (some ⟨w.heap.size,0,none⟩)) (hn:ARs (ctx w g h) cs vs.toList):Made B w g h w' v (.box ty cs) λi=> .ptr i 0
 | row (ty e:Nat) (xs:List (List AV)) (cells:List Value) (he:0<e) (hx:∀x∈xs,x.length=e) (hb:Below w.heap.size w w') (hown:w'.ownsRow B ty e v xs.length cells) (hn:ARs (ctx w g h) xs.flatten cells)
   (hbl:∀b,v.ownBlock=some b->w.heap.size<=b):Made B w g h w' v (.row ty e xs 0) λi=> .tl i 0
 | map (hw:w'=w.alloc (.map #[] 0)) (hv:v= .map (some w.heap.size)):Made B w g h w' v (.mapo []) λi=> .mp i
def Made.more{w':World}{v:Value}{o:Ob}{mk:Nat->AV}(m:Made B w g h w' v o mk)(i:HOk B w g h)(hB:B<=w.heap.size):∃g',Good B w g h w' g' (h++[o])/\AR (ctx w' g' (h++[o])) (mk h.length) v:=by
 cases m with
 | box ty n vs c b f=>subst c b;exact⟨_,more_box i hB f⟩
 | row ty e xs cells l k j a f d=>exact⟨_,more_row i hB l k 0 j a f d⟩
 | map c b=>subst c b;exact⟨_,more_map i hB⟩
def Made.at{w':World}{v:Value}{o:Ob}{mk:Nat->AV}(m:Made B w g h w' v o mk)(j:HOk B w g h)(hB:B<=w.heap.size){i:Nat}(hi:h[i]? =some .res):∃g',Good B w g h w' g' (h.set i o)/\AR (ctx w' g' (h.set i o)) (mk i) v:=by
 cases m with
 | box ty p vs c b f=>subst c b;exact⟨_,box_at j hB hi f⟩
 | row ty e xs cells n l k a f d=>exact⟨_,row_at j hB hi n l 0 k a f d⟩
 | map c b=>subst c b;exact⟨_,map_at j hB hi⟩
def Made.live{w':World}{v:Value}{o:Ob}{mk:Nat->AV}(m:Made B w g h w' v o mk):o.isRes=false:=by cases m<;>rfl
def run_alloc(j:HOk B w g h){t:TypeId}{z:List Value}(c:(zF P t).ok=true)(a:(zF P t).zero=some z):
    ∃v w',(Instr.alloc t true (.tuple #[])).run P w= .ok v w'/\Made B w g h w' v (.box t (z.map .v)) (λi=> .ptr i 0):=by
 obtain⟨d,i,k,hi,e⟩:=qS c;rw[e] at a;cases b:i.zero with
 | none=>rw[b] at a;cases a
 | some f=>
   rw[b] at a;injection a with a;subst a;exact⟨_,_,by simp[Instr.alloc,Ju hi b,newVar,newRow],.box t _ f.cells rfl rfl (QL _)⟩
def run_box(d:HOk B w g h){t:TypeId}{y:AV}{v:Value}{a:List AV}(c:AR (ctx w g h) y v)(b:y.cells=some a):
    ∃u w',(Instr.box t v).run P w= .ok u w'/\Made B w g h w' u (.box t a) (λi=> .ptr i 0):=
 ⟨_,_,by simp[Instr.box,newVar,newRow],.box t _ v.cells rfl rfl (Jr b c).1⟩
def XJ:∀(a:List Field),(a.all λf=>(zF P f.type).ok)=true->a.mapM (λf=>(P.info? f.type).map λi=>(f.offset,i.size))=some (a.map λf=>(f.offset,(zF P f.type).sz))
 | [],_=>rfl
 | f::a,h=>by
   rw[List.all_cons,zi] at h;obtain⟨d,i,b,hi,e⟩:=qS h.1;simp[List.mapM_cons,hi,XJ a h.2,e]
def did_build(C:HOk B w g h)(hB:B<=w.heap.size)(D:wM (ctx w g h) T a){t:TypeId}{p:Array (Nat × Operand)}{o:List (Nat × TypeId)}{z:List Value}{r:List AV}
    (m:(zF P t).kind= .struct o) (s:o.all (λf=>(zF P f.2).ok)=true) (k:(zF P t).zero=some z) (u:vC (ZC P o) (z.map .v) (evs T p.toList)=some r):
    DidV P (Instr.build t (p.map λ(i,x)=>(i,a.eval x))) B w g h (.ag r) h:=by
 have A:=KA k;obtain⟨d,i,F,hi,e⟩:=qS A;rw[e] at k m;cases d<;>try (cases m;done)
 rename_i fields;injection m with m;cases l:i.zero with
 | none=>rw[l] at k;cases k
 | some G=>
   rw[l] at k;injection k with k;subst k;have n:(fields.toList.all λf=>(zF P f.type).ok)=true:=(by rw[<-m,List.all_map] at s;exact s);have q:=XJ (P:=P) fields.toList n;obtain⟨b,y,E⟩:=fill_rel (c:=ctx w g h) (ZC P o) (evs T p.toList) (p.toList.map λ(i,x)=>(i,a.eval x)) _ r G.cells (Jf D _) (QL _) u;refine jk C hB (v:= .agg b) (run_build w t _ b ?_) ⟨b,rfl,E⟩;unfold Program.built;simp only[hi,F,l,q]
   have:(λx=>(fields.toList.map λf=>(f.offset,(zF P f.type).sz)).toArray[x]?)=ZC P o:=by
    funext j;rw[<-m];simp[ZC,Option.map_map,Function.comp_def]
   rw[this];simpa using y
def did_build_arr(u:HOk B w g h)(hB:B<=w.heap.size)(H:wM (ctx w g h) T a){t e:TypeId}{m:Nat}{l:Array (Nat × Operand)}{z:List Value}{o:List AV}
    (p:(zF P t).kind= .arr m e) (K:(zF P e).ok=true) (f:(zF P t).zero=some z) (J:vC (wi (zF P e).sz) (z.map .v) (evs T l.toList)=some o):
    DidV P (Instr.build t (l.map λ(i,x)=>(i,a.eval x))) B w g h (.ag o) h:=by
 have G:=KA f;obtain⟨d,i,D,hi,y⟩:=qS G;rw[y] at f p;cases d<;>try (cases p;done)
 rename_i n k;injection p with hk1 hk2;subst hk2;obtain⟨L,F,C,r,q⟩:=qS K;cases j:i.zero with
 | none=>rw[j] at f;cases f
 | some A=>
   rw[j] at f;injection f with f;subst f;obtain⟨b,E,I⟩:=fill_rel (c:=ctx w g h) (wi (zF P k).sz) (evs T l.toList) (l.toList.map λ(i,x)=>(i,a.eval x)) _ o A.cells (Jf H _) (QL _) J;refine jk u hB (v:= .agg b) (run_build w t _ b ?_) ⟨b,rfl,I⟩;unfold Program.built;simp only[hi,D,j,r];have s:F.size=(zF P k).sz:=(by rw[q]);rw[s];have:(λi=>some (i*(zF P k).sz,(zF P k).sz))=wi (zF P k).sz:=rfl;rw[this];simpa using E
def run_bSlice(hh:HOk B w g h)(hB:B<=w.heap.size)(hT:wM (ctx w g h) T a){t e:TypeId}{n:Nat}{s:Array (Nat × Operand)}{u:List AV}
    (A:(zF P t).kind= .slice e) (ho:(zF P e).ok=true) (h0:0<(zF P e).sz) (hn:n*(zF P e).sz<=16777216) (E:(zF P e).zero.isSome=true)
    (O:vC (wi (zF P e).sz) (Vg (n*(zF P e).sz)) (evs T s.toList)=some u):
    ∃v w',(Instr.buildSlice t n (s.map λ(i,x)=>(i,a.eval x))).run P w= .ok v w'/\Made B w g h w' v (.row e (zF P e).sz (yD (zF P e).sz n u) 0) (λi=> .tl i 0):=by
 have ht:=qW A zh;obtain⟨d,i,R,hi,eq⟩:=qS ht;rw[eq] at A;cases d<;>try (cases A;done)
 injection A with A;subst A;rename_i e;obtain⟨d',o,W,I,H⟩:=qS ho;have J:(zF P e).sz=o.size:=by rw[H]
 rw[J] at h0 hn O⊢;cases D:o.zero with
 | none=>rw[H] at E;simp[D] at E
 | some z=>
   obtain⟨k,S,U⟩:=fill_rel (c:=ctx w g h) (wi o.size) (evs T s.toList) (s.toList.map λ(i,x)=>(i,a.eval x)) _ u ((Array.range (n*o.size)).map (z.cells[· % z.cells.size]!)) (Jf hT _)
    (by have:=Vl (c:=ctx w g h) ((Array.range (n*o.size)).map (z.cells[· % z.cells.size]!)).toList;simpa using this) O
   have N:u.length=n*o.size:=by
    have key:∀(l:List (Nat × AV)) (aZ rs:List AV),vC (wi o.size) aZ l=some rs->rs.length=aZ.length:=by
     intro l
     induction l with
     | nil=>intro aZ rs h;injection h with h;rw[h]
     | cons p l M=>
       intro aZ rs h;obtain⟨j,y⟩:=p;simp only[vC] at h;split at h
       ·split at h
        ·rename_i off size Z hp hy hl;cases q:lay aZ off Z with
         | none=>rw[q] at h;cases h
         | some ι=>rw[q] at h;rw[M _ _ h,Jd q]
        ·cases h
       ·cases h
    have Q:∀m,(Vg m).length=m:=λm=>by induction m with|zero=>rfl|succ m M=>simp[Vg,M]
    rw[key _ _ _ O,Q]
   obtain⟨Y,c2,c3⟩:=Zt o.size n u N;have r:k.size=n*o.size:=by have:=wz U;simp at this;omega
   have C:(Instr.buildSlice t n (s.map λ(i,x)=>(i,a.eval x))).run P w= .ok (.slice (some ⟨w.heap.size,0,none⟩) n n) (w.alloc (.cells k e)):=by
    by_cases G:n*o.size=0
    ·have L:n=0:=by
      rcases Nat.mul_eq_zero.1 G with h|h
      ·exact h
      ·omega
     subst L;have X:((Array.range 0).map (z.cells[· % z.cells.size]!))= #[]:=zh
     have V:Instr.fill (λi=>some (i*o.size,o.size)) #[] (s.map λ(i,x)=>(i,a.eval x)).toList=some k:=by
      have:=S;rw[Nat.zero_mul,X] at this;rw[Array.toList_map];exact this
     generalize (s.map λ(i,x)=>(i,a.eval x))=qs at V;have e1:∀f:Nat->Value,(Array.range 0).map f= #[]:=λf=>(by simp[Array.range]);simp[Instr.buildSlice,run_underlying R,sizeOf,typeInfo,I,e1,V,newRow]
    ·exact run_buildSlice w t e n _ k o z R I D zb G (by rw[Array.toList_map];exact S)
   have hm:n<=maxLen:=by
    have:n<=n*o.size:=Nat.le_mul_of_pos_right n h0;simp only[maxLen];omega
   have K:k.toList.take (n*o.size)=k.toList:=List.take_of_length_le (by simp[r])
   have F:(w.alloc (.cells k e)).ownsRow B e o.size (.slice (some ⟨w.heap.size,0,none⟩) n n) (yD o.size n u).length k.toList:=by
    rw[c3];exact⟨by simpa using r,.inr ⟨w.heap.size,n,k,rfl,hB,heap_alloc_new w _,zB _,hm,r,K⟩⟩
   exact⟨_,_,C,.row e o.size _ _ h0 c2 ((Below.refl _ w).alloc (zB _) _) F (by rw[Y];exact U) (λb Q=>by simp[Value.ownBlock] at Q;omega)⟩
def Zu(z:Array Value)(n:Nat):(madeCells z (n*z.size)).toList=(List.replicate n z.toList).flatten:=by
 by_cases q:z.size=0
 ·have c:z= #[]:=Array.eq_empty_of_size_eq_zero q;subst c;have:(List.replicate n ([]:List Value)).flatten=[]:=by rw[List.flatten_eq_nil_iff];intro l b;exact List.eq_of_mem_replicate b
  simp[madeCells,this,Array.range_zero']
 ·have o:∀x∈List.replicate n z.toList,x.length=z.size:=λx d=>by rw[List.eq_of_mem_replicate d];simp
  have b:(List.replicate n z.toList).flatten.length=n*z.size:=by
   have:∀m,(List.replicate m z.toList).flatten.length=m*z.size:=λm=>by
    induction m with
    | zero=>simp
    | succ m s=>rw[List.replicate_succ,List.flatten_cons,zp,s,Nat.succ_mul];simp;omega
   exact this n
  apply qz;intro j;by_cases f:j<n*z.size
  ·have g:j % z.size<z.size:=Nat.mod_lt _ zb;have h:j / z.size<n:=(by rw[Nat.div_lt_iff_lt_mul zb];exact f);have p:(List.replicate n z.toList)[j / z.size]? =some z.toList:=(by rw[List.getElem?_replicate,if_pos h]);have t:z.toList[j % z.size]? =some z[j % z.size]:=(by simp[g]);have key:∀ {xs:List (List Value)},(∀x∈xs,x.length=z.size)->∀ {i k:Nat} {r:List Value} {a:Value},xs[i]? =some r->r[k]? =some a->xs.flatten[i*z.size+k]? =some a:=λd _ _ _ _ hi u=>wB d hi u;have e:=key o p t;rw[show j / z.size*z.size+j % z.size=j by rw[Nat.mul_comm];exact Nat.div_add_mod j z.size] at e;rw[e];simp[madeCells,f,g]
  ·rw[zR (by simp[madeCells];omega),zR (by rw[b];omega)]
def run_mSlice(T:HOk B w g h)(hB:B<=w.heap.size){t e:TypeId}{k1 k2:IntKind}{n:Int}{z:List Value}
    (j:(zF P t).kind= .slice e) (O:0<=n) (s:n*((zF P e).bytes+1)<=140737488355328) (M:(zF P e).ok=true) (h0:0<(zF P e).sz) (r:(zF P e).zero=some z) (u:z.length=(zF P e).sz):
    ∃v w',(Instr.makeSlice t (.int k1 n) (.int k2 n)).run P w= .ok v w'/\Made B w g h w' v (.row e (zF P e).sz (List.replicate n.toNat (z.map .v)) 0) (λi=> .tl i 0):=by
 obtain⟨d,it,G,N,eq⟩:=qS (qW j zh);rw[eq] at j;cases d<;>try (cases j;done)
 injection j with j;subst j;rename_i e;obtain⟨S,i,J,hi,c⟩:=qS M;have E:(zF P e).sz=i.size:=by rw[c]
 have D:(zF P e).bytes=i.bytes:=by rw[c]
 rw[E] at h0 u⊢;rw[D] at s;cases a:i.zero with
 | none=>rw[c] at r;simp[a] at r
 | some o=>
   have p:o.cells.toList=z:=(by rw[c] at r;simpa [a] using r);obtain⟨m,rfl⟩:=Int.eq_ofNat_of_zero_le O
   have A:m*(i.bytes+1)<=140737488355328:=by
    have:((m*(i.bytes+1):Nat):Int)<=140737488355328:=(by simpa using s);omega
   rw[Nat.mul_add,Nat.mul_one,Nat.mul_comm] at A;have l:o.cells.size=i.size:=(by rw[<-u, <-p];simp);obtain⟨w',I,L,q⟩:=run_make_full (P:=P) w B t e i o i.size G hi a rfl k1 k2 m zb (by simp only[maxLen];omega) hB;obtain⟨F,H,K,_⟩:=run_make_full (P:=P) w w.heap.size t e i o i.size G hi a rfl k1 k2 m zb (by simp only[maxLen];omega) (zB _);have C:F=w':=by rw[I] at H;injection H with _ h;exact h.symm
   subst C;refine⟨_,F,I,?_⟩;have f:(madeCells o.cells (m*i.size)).toList=(List.replicate m z).flatten:=by rw[<-l,Zu,p]
   have y:(List.replicate m (z.map AV.v)).flatten=(List.replicate m z).flatten.map AV.v:=by
    induction m with
    | zero=>simp
    | succ m R=>simp[List.replicate_succ]
   simp only[Int.toNat_natCast,Int.ofNat_eq_natCast];refine .row e i.size _ (madeCells o.cells (m*i.size)).toList h0 (λx Q=>by rw[List.eq_of_mem_replicate Q];simp[u]) ⟨q.os,q.tape,q.output,q.size,λk j=>q.block k j zh⟩ (by simpa using L) ?_ (λb s=>(World.ownsRow.lt K b s).1);rw[y,f];exact QL _
def allocA_run(p:HOk B w g h)(hB:B<=w.heap.size)(q:wM (ctx w g h) T a){op:Op}{o:Ob}{mk:Nat->AV}(b:ji P T op=some (o,mk))(dst:Option Tmp)(type:TypeId)(pos:String)(after:Array Edge)(guard:Option (Nat × Bool)):
    ∃v w',(execOp a.eval ⟨dst,op,type,pos,after,guard⟩).run P w= .ok (.value v) w'/\Made B w g h w' v o mk:=by
 unfold ji at b;split at b
 ·rename_i t;split at b
  ·rename_i E;cases f:(zF P t).zero with
   | none=>rw[f] at b;cases b
   | some z=>
     rw[f] at b;injection b with b;injection b with hx1 hx2;subst hx1 hx2;obtain⟨v,w',j,i⟩:=run_alloc (P:=P) p E f;exact⟨v,w',by simp[execOp,j],i⟩
  ·cases b
 ·rename_i t y;cases d:(ev T y).cells with
  | none=>rw[d] at b;cases b
  | some u=>
    rw[d] at b;injection b with b;injection b with hx1 hx2;subst hx1 hx2;obtain⟨v,w',j,i⟩:=run_box (P:=P) (t:=t) p (jt q y) d;exact⟨v,w',by simp[execOp,j],i⟩
 ·rename_i t n F;split at b
  ·rename_i e r;split at b
   ·rename_i k;cases d:vC (wi (zF P e).sz) (Vg (n*(zF P e).sz)) (evs T F.toList) with
    | none=>rw[d] at b;cases b
    | some u=>
      rw[d] at b;injection b with b;injection b with hx1 hx2;subst hx1 hx2;obtain⟨v,w',j,i⟩:=run_bSlice p hB q r k.1 k.2.1 k.2.2.1 k.2.2.2 d;exact⟨v,w',by simp[execOp,j],i⟩
   ·cases b
  ·cases b
 ·rename_i t l c;split at b
  ·rename_i e k1 n k2 m r s d;split at b
   ·rename_i k;obtain⟨H,G,A,C,f5,f6⟩:=k;subst H;cases f:(zF P e).zero with
    | none=>rw[f] at b;cases b
    | some z=>
      rw[f] at b f6;injection b with b;injection b with hx1 hx2;subst hx1 hx2;have j:=wl q s;have i:=wl q d;obtain⟨v,w',D,x⟩:=run_mSlice (P:=P) (k1:=k1) (k2:=k2) p hB r G A C f5 f (by simpa using f6);exact⟨v,w',by simp[execOp,j,i,D],x⟩
   ·cases b
  ·cases b
 ·rename_i t;split at b
  ·injection b with b;injection b with hx1 hx2;subst hx1 hx2;exact⟨.map (some w.heap.size),w.alloc (.map #[] 0),by simp[execOp,Instr.makeMap,newObj];rfl,.map rfl rfl⟩
  ·cases b
 ·cases b
end
section
variable {B:Nat} {w:World} {g:Gh} {h h':List Ob} {P:Program} {x:AV}
def ep_rows(l:HOk B w g h){a:AV}{e i k:Nat}{u:Value}(q:AR (ctx w g h) (.ep a e i k) u){xs:List (List AV)}(p:eOf h a=some e)(f:zI h a=some xs):
    ∃A b,AR (ctx w g h) a (.slice (some A) xs.length b)/\RowsAt w (ctx w g h) e xs (some A)/\i<xs.length/\u= .pointer (some (A.add (i*e+k))):=by
 obtain⟨A,m,b,c,o,j⟩:=q;obtain⟨r,k',n,s,d,_⟩:=rows_ok l _ c f;injection n with e4 e5 e6;subst e5 e6;have:=d e p;rw[<-e4] at this;exact⟨A,b,c,this,o,j⟩
def Vm(f:HOk B w g h)(hB:B<=w.heap.size){t:TypeId}{p:AV}{u:Value}(s:AR (ctx w g h) p u)(c:yE h (zF P t) p=some x):DidV P (Instr.loadAt t u) B w g h x h:=by
 cases p with
 | ptr id off=>
   simp only[yE] at c;split at c
   ·rename_i ty H E;split at c
    ·rename_i F;obtain⟨v,n,l⟩:=load_part (P:=P) F (Vf f E) c;obtain⟨_,e⟩:=s;subst e;refine jk f hB (v:=v) ?_ l;rw[Addr.add_lit,Nat.zero_add] at n;simpa [Instr.loadAt,Instr.sureAddr,ctx] using n
    ·cases c
   ·cases c
 | ep a e i k=>
   simp only[yE] at c;split at c
   ·rename_i q;cases m:zI h a with
    | none=>rw[m] at c;cases c
    | some xs=>
      rw[m] at c;simp only[Option.bind_some] at c;cases hi:xs[i]? with
      | none=>rw[hi] at c;cases c
      | some r=>
        rw[hi] at c;obtain⟨A,K,_,l,I,C⟩:=ep_rows f s q.2 m;subst C
        have d:PartAt w (ctx w g h) (A.add (i*e)) r:=λk b D=>by
         obtain⟨J,u,j,z,y⟩:=l.cell i k r b hi D;injection j with j;subst j;exact⟨u,by rw[Addr.add_add];exact z,y⟩
        obtain⟨v,o,G⟩:=load_part (P:=P) q.1 d c;refine jk f hB (v:=v) ?_ G;rw[Addr.add_add] at o;simpa [Instr.loadAt,Instr.sureAddr] using o
   ·cases c
 | _=>cases c
def ZF{rest:List AV}:∀ {r:List AV} {k:Nat} {c d:List AV},lay r k c=some d->lay (r++rest) k c=some (d++rest)
 | r,0,[],d,h=>by
   have e:∀l:List AV,lay l 0 []=some l:=λl=>(by cases l<;>rfl);rw[e] at h;cases h;exact e _
 | [],k+1,_,_,h=>by cases h
 | [],0,_::_,_,h=>by cases h
 | a::r,0,n::c,d,h=>by
   simp only[lay] at h;cases b:lay r 0 c with
   | none=>rw[b] at h;cases h
   | some q=>
     rw[b] at h;injection h with h;subst h
     simp[lay,ZF b]
 | a::r,k+1,c,d,h=>by
   simp only[lay] at h;cases b:lay r k c with
   | none=>rw[b] at h;cases h
   | some q=>
     rw[b] at h;injection h with h;subst h
     simp[lay,ZF b]
def Vn{rest b:List AV}{m:Nat}{c:List AV}(h:lay rest m c=some b):∀(x:List AV),lay (x++rest) (x.length+m) c=some (x++b)
 | []=>by simpa using h
 | a::x=>by
   rw[List.length_cons,show x.length+1+m=(x.length+m)+1 by omega];simp[lay,Vn h x]
def QM{e:Nat}:∀ {xs:List (List AV)},(∀x∈xs,x.length=e)->∀ {i k:Nat} {r b a:List AV},xs[i]? =some r->lay r k b=some a->lay xs.flatten (i*e+k) b=some (xs.set i a).flatten
 | x::xs,h,0,k,r,b,a,hi,c=>by
   injection hi with hi;subst hi;simpa using ZF (rest:=xs.flatten) c
 | x::xs,h,i+1,k,r,b,a,hi,c=>by
   have f:=h x zh;have:=Vn (QM (xs:=xs) (λy d=>h y (by simp[d])) (i:=i) hi c) x;rw[f] at this;rw[show(i+1)*e+k=e+(i*e+k) by rw[Nat.succ_mul];omega];simpa using this
def row_put(s:HOk B w g h)(hB:B<=w.heap.size){id ty e st:Nat}{xs xs':List (List AV)}(y:h[id]? =some (.row ty e xs st)){A:Addr}{G V:Nat}(d:g.cur id= .slice (some A) G V){o:Nat}{vs:List Value}{u:List AV}
    (p:ARs (ctx w g h) u vs) (O:∀v∈vs,v.oneCell'=true) (i:lay xs.flatten o u=some xs'.flatten) (n:∀x∈xs',x.length=e) (a:xs'.length=xs.length):
    ∃w' g',(storeCells (A.add o) vs).run P w= .ok () w'/\Good B w g h w' g' (h.set id (.row ty e xs' st)):=by
 obtain⟨X,W,cells,t,T⟩:=s.ok id _ y;obtain⟨I,D⟩:=Z0 T _ p i;rcases t.2 with⟨l,_⟩|⟨f,cap,cur,l,M,r,C,N,R,S⟩
 ·have c:g.cur id=_:=l;rw[c] at d;cases d
 ·have c:g.cur id=_:=l
  have k:A=⟨f,0,none⟩:=by
   rw[c] at d;injection d with d;injection d with d;exact d.symm
  subst k;have F:cells.length=xs.length*e:=t.1;have J:xs.length*e<=cur.size:=by rw[R];exact Nat.mul_le_mul_right _ C
  have K:o+vs.length<=xs.length*e:=by rw[F] at D;exact D
  have j:=run_storeCells_at P f o ty vs 0 cur w r (by simp only[Nat.add_zero];omega) O;simp only[Nat.add_zero] at j;rw[Addr.add_lit,Nat.zero_add];refine⟨_,_,j,turn_row (v':=g.cur id) (st':=st) (cells:=cells.take o++vs++cells.drop (o+vs.length)) s hB y n ?_ ?_ I (.inl ⟨rfl,rfl⟩) (λb U=> .inl U)⟩
  ·rw[c];exact yM w f _
  ·rw[c];refine⟨?_,.inr ⟨f,cap,_,by rw[a],M,setRow_heap w f cur _ ty _ r,by rw[a];exact C,N,?_,?_⟩⟩
   ·simp only[zp,zT,List.length_drop];rw[a];omega
   ·simp only[List.size_toArray,zp,zT,List.length_drop,xi];omega
   ·rw[a, <-S];apply qz;intro m;simp only[jZ,List.getElem?_append,zT,zp,List.getElem?_drop,xi];have H:min (xs.length*e) cur.size=xs.length*e:=zb;simp only[H];have L:min o (xs.length*e)=o:=zb;have q:min o cur.size=o:=zb;simp only[L,q];by_cases z:m<o
    ·simp[z,show m<o+vs.length by omega,show m<xs.length*e by omega]
    ·by_cases E:m<o+vs.length
     ·simp[z,E,show m<xs.length*e by omega]
     ·have Q:o+vs.length+(m - (o+vs.length))=m:=(by omega);simp[E,Q]
def did_store(n:HOk B w g h)(hB:B<=w.heap.size){t:TypeId}{p y:AV}{u v:Value}{z:List AV}(S:AR (ctx w g h) p u)(T:AR (ctx w g h) y v)(ht:(zF P t).ok=true)(hn:y.cells=some z)(N:z.length=(zF P t).sz)
    (b:wj h z p=some h'):∃w' g',(Instr.storeAt t u v).run P w= .ok () w'/\Good B w g h w' g' h':=by
 obtain⟨d,i,hu,hi,eq⟩:=qS ht;obtain⟨m,C⟩:=Jr hn T
 have f:v.cells.size=i.size:=by
  have:=wz m;rw[eq] at N;simp at this N;omega
 have D:∀(q off:Nat) (ty:TypeId) (cur:Array Value),w.heap[q]? =some (.cells cur ty (0,0))->off+v.cells.toList.length<=cur.size->
   (Instr.storeAt t (.pointer (some ⟨q,off,none⟩)) v).run P w= .ok () (w.setRow q (cur.toList.take off++v.cells.toList++cur.toList.drop (off+v.cells.toList.length)).toArray):=λq off ty cur W hb=>by
  have:=run_storeCells_at P q off ty v.cells.toList 0 cur w W (by simpa using hb) C;simp only[Nat.add_zero] at this;simp[Instr.storeAt,Instr.sureAddr,storeVar,sizeOf,typeInfo,hi,f];simpa [f] using this
 cases p with
 | ptr id off=>
   simp only[wj] at b;split at b
   ·rename_i ty V l;cases c:lay V off z with
    | none=>rw[c] at b;cases b
    | some U=>
      rw[c] at b;injection b with b;subst b;obtain⟨Q,vs,R,O⟩:=n.ok id _ l;obtain⟨J,h5⟩:=Z0 O off m c;obtain⟨_,e⟩:=S;subst e;exact⟨_,_,D _ off ty vs R (by simpa using h5),turn_box n hB l (by simpa using J)⟩
   ·cases b
 | ep a e j k=>
   cases a<;>try (cases b;done)
   rename_i id st;simp only[wj] at b;split at b
   ·rename_i ty M xs s l;split at b
    ·rename_i hc;obtain⟨H,K⟩:=hc;subst H K;cases G:xs[j]? with
     | none=>rw[G] at b;cases b
     | some r=>
       rw[G] at b;simp only[Option.bind_some] at b;cases c:lay r k z with
       | none=>rw[c] at b;cases b
       | some r'=>
         rw[c] at b;injection b with b;subst b;have X:eOf h (.tl id s)=some M:=(by simp[eOf,l]);have hr:zI h (.tl id s)=some xs:=(by simp[zI,l]);obtain⟨A,cp,Q,R,O,J⟩:=ep_rows n S X hr;subst J;have F:=ZB Q l;obtain⟨q0,L,cells,q2,q3⟩:=n.ok id _ l;have I:=QM L G c
         have E:∀x∈xs.set j r',x.length=M:=λx b=>by
          rcases List.mem_or_eq_of_mem_set b with b|b
          ·exact L x b
          ·subst b;rw[Jd c];exact L r (ja G)
         obtain⟨w',g',Z,Y⟩:=row_put (P:=P) n hB l F.symm (o:=j*M+k) m C I E zh;refine⟨w',g',?_,Y⟩;simp[Instr.storeAt,Instr.sureAddr,storeVar,sizeOf,typeInfo,hi,f];simpa [f] using Z
    ·cases b
   ·cases b
 | _=>cases b
end
section
variable {B:Nat} {w:World} {g:Gh} {h h':List Ob} {P:Program} {x:AV} {T:Nat->AV} {a:Act}
def run_append_none{t ty e:TypeId}{i:TypeInfo}(b:P.underlying t=some (.slice e))(hi:P.info? e=some i)(base:Option Addr)(n cap k:Nat)(a:n<=cap):
    (Builtin.append_ #[t,t] ty #[.slice base n cap,.slice none 0 k]).run P w= .ok (.slice base n cap) w:=by
 cases base<;>simp[Builtin.append_,run_underlying b,sizeOf,typeInfo,hi,Builtin.lenOf,a,Builtin.firstCells,storeCells]
def rows_news{c:Ctx}{e:Nat}{xs:List (List AV)}{A:Addr}(f:RowsAt w c e xs (some A))(y:∀r∈xs,r.all AV.one=true):
    ∃news:List Value,news.length=xs.length*e/\(∀j u,news[j]? =some u->w.cell? (A.add j)=some u)/\(∀u∈news,u.oneCell'=true)/\ARs c xs.flatten news:=by
 have B:PartAt w c A xs.flatten:=λk a i=>by
  by_cases t:e=0
  ·have:xs.flatten=[]:=by
    apply zy;rw[xQ f.len,t,Nat.mul_zero]
   rw[this] at i;cases i
  ·have g:=(zj.1 i).1;rw[xQ f.len] at g;have hi:k / e<xs.length:=(by rw[Nat.div_lt_iff_lt_mul zb];exact g);have C:k % e<e:=Nat.mod_lt _ zb;have d:xs[k / e]? =some xs[k / e]:=zg hi;have x:xs[k / e].length=e:=f.len _ (zx hi);have b:xs[k / e][k % e]? =some xs[k / e][k % e]:=zg zb;have l:=wB f.len d b;have h:k / e*e+k % e=k:=(by rw[Nat.mul_comm];exact Nat.div_add_mod k e);rw[h,i] at l;injection l with l;obtain⟨D,u,m,q,s⟩:=f.cell _ _ _ _ d b;injection m with m;subst m;rw[h] at q;exact⟨u,q,by rw[l];exact s⟩
 obtain⟨vs,o,v⟩:=B.vals;refine⟨vs,by rw[<-wz o,xQ f.len],v,?_,o⟩;refine Qm ?_ o;rw[zY];intro a z;obtain⟨r,p,n⟩:=List.mem_flatten.1 z;exact zY.1 (y r p) a n
def KB{a:Nat}{e:TypeId}{size:Nat}{v:Value}{k:Nat}{xs:List Value}(h:w.ownsRow B e size v k xs)(d:a<=B):w.ownsRow a e size v k xs:=by
 refine⟨h.1,?_⟩;rcases h.2 with f|⟨g,cap,cur,b,c,r⟩
 ·exact .inl f
 ·exact .inr ⟨g,cap,cur,b,Nat.le_trans d c,r⟩
def append_blk{t ty e:TypeId}{i:TypeInfo}{z:Value}(r:P.underlying t=some (.slice e))(hi:P.info? e=some i)(B:i.zero=some z)(C:0<i.size)
    {D:Nat} {v:Value} {n:Nat} {xs:List Value} (f:w.ownsRow D e i.size v n xs) {l:Addr} {m c:Nat} {news:List Value} (p:news.length=m*i.size) (a:∀j u,news[j]? =some u->w.cell? (l.add j)=some u) (I:∀u∈news,u.oneCell'=true)
    (x:n+m<=maxLen) (d:(n+m)*i.bytes<=140737488355328) {v':Value} {w':World} (k:(Builtin.append_ #[t,t] ty #[v,.slice (some l) m c]).run P w= .ok v' w') (b:Nat) (s:v'.ownBlock=some b):
    v.ownBlock=some b∨w.heap.size<=b:=by
 have q:n+m<=9223372036854775807:=by simp only[maxLen] at x;omega
 rcases f.2 with⟨rfl,rfl⟩|⟨g,cap,cur,rfl,F,E,J,G,y,A⟩
 ·by_cases H:m=0
  ·subst H
   have:(Builtin.append_ #[t,t] ty #[.slice none 0 0,.slice (some l) 0 c]).run P w= .ok (.slice none 0 0) w:=by
    simp[Builtin.append_,run_underlying r,sizeOf,typeInfo,hi,Builtin.lenOf,Builtin.firstCells,loadCells,loadCellsFrom]
   rw[this] at k;injection k with e1 e2;subst e1;simp[Value.ownBlock] at s
  ·rw[run_append_nil (P:=P) w t ty e i z r hi B l m c news p a zb zb (by simp only[Nat.zero_add] at d;omega)] at k;injection k with e1 e2;subst e1;simp[Value.ownBlock] at s;exact .inr zb
 ·by_cases h:n+m<=cap
  ·have o:n*i.size+news.length<=cur.size:=(by rw[p,y, <-Nat.add_mul];exact Nat.mul_le_mul_right _ h);rw[run_append_room (P:=P) w t ty e i r hi g n cap cur E l m c news p a I h o] at k;injection k with e1 e2;subst e1;exact .inl s
  ·have holds:∀j u,xs[j]? =some u->w.cell? ((⟨g,0,none⟩:Addr).add j)=some u:=f.cells (g:=g) rfl;rw[run_append_grow (P:=P) w t ty e i z r hi B ⟨g,0,none⟩ n cap xs f.1 holds l m c news p a zb zb (growslice_fits zb d)] at k;injection k with e1 e2;subst e1;simp[Value.ownBlock] at s;exact .inr zb
def did_append(T:HOk B w g h)(hB:B<=w.heap.size){t ty e:TypeId}{s y:AV}{u v:Value}(hs:AR (ctx w g h) s u)(hy:AR (ctx w g h) y v)(L:(zF P t).kind= .slice e)(a:yk P h e s y=some (x,h')):
    DidV P (Builtin.append_ #[t,t] ty #[u,v]) B w g h x h':=by
 obtain⟨d,it,X,hit,eq⟩:=qS (qW L zh);rw[eq] at L;cases d<;>try (cases L;done)
 injection L with L;subst L;rename_i e;unfold yk at a;cases o:zI h y with
 | none=>simp[o] at a
 | some ys=>
   simp only[o,Option.bind_some] at a;split at a
   ·rename_i hc;obtain⟨ho,h0,V,M⟩:=hc;obtain⟨d',i,ω,hi,J⟩:=qS ho;have υ:(zF P e).sz=i.size:=(by rw[J]);have τ:(zF P e).bytes=i.bytes:=(by rw[J]);rw[υ] at h0 M V a;rw[τ] at a;cases q:i.zero with
    | none=>rw[J] at V;simp[q] at V
    | some z=>
      rw[J] at V;have W:z.cells.size=i.size:=by simpa [q] using V
      have c:∀r∈ys,r.length=i.size/\r.all AV.one=true:=λr o=>by
       have:=zY.1 M r o;simpa only[zi,beq_iff_eq] using this
      obtain⟨A,k,e1,e2,e3,e4⟩:=rows_ok T _ hy o;subst e1
      have D:(∃m,A=some m)->∃m news,A=some m/\news.length=ys.length*i.size/\(∀j u,news[j]? =some u->w.cell? (m.add j)=some u)/\(∀u∈news,u.oneCell'=true)/\ARs (ctx w g h) ys.flatten news:=by
       rintro ⟨m,rfl⟩;cases f:ys with
       | nil=>exact⟨m,[],rfl,zh,zh,zh,rfl⟩
       | cons r rs=>
         cases U:eOf h y with
         | none=>rw[e4 U] at f;cases f
         | some e'=>
           have I:=e3 e' U;have ο:e'=i.size:=(by rw[<-I.len r (by rw[f];simp),(c r (by rw[f];simp)).1]);subst ο;obtain⟨news,n1,n2,n3,n4⟩:=rows_news I λr o=>(c r o).2;rw[<-f];exact⟨m,news,rfl,n1,n2,n3,n4⟩
      have E:A=none->ys=[]:=λK=>by
       cases f:ys with
       | nil=>rfl
       | cons r rs=>
         cases U:eOf h y with
         | none=>rw[e4 U] at f;cases f
         | some e'=>
           have I:=e3 e' U;have hr0:=(c r (by rw[f];simp)).1;obtain⟨m,u,q1,_⟩:=I.cell 0 0 r (nth r 0) (by rw[f];rfl) (wA zb);rw[K] at q1;cases q1
      split at a
      ·rename_i id st;split at a
       ·rename_i F e' xs s p;split at a
        ·rename_i κ;obtain⟨c1,c2,c3,Y⟩:=κ;subst c1 c2 c3;injection a with a;injection a with hx1 hx2;subst hx1 hx2;have n:=ZB hs p;obtain⟨q0,q1,cells,q2,q3⟩:=T.ok id _ p;have C:w.ownsRow B F i.size (g.cur id) xs.length cells:=q2;rw[<-n] at C;have ζ:xs.length+ys.length<=140737488355328:=Nat.le_trans (Nat.le_mul_of_pos_right _ zb) Y;have H:(xs.length+ys.length)*i.bytes<=140737488355328:=Nat.le_trans (Nat.mul_le_mul_left _ zb) Y
         have η:∀x∈xs++ys,x.length=i.size:=λx a=>by
          rcases zV.1 a with a|a
          ·exact q1 x a
          ·exact(c x a).1
         have fin:∀(v':Value) (w':World) (l:List Value),w'.ownsRow B F i.size v' (xs++ys).length l->ARs (ctx w g h) (xs++ys).flatten l->w.grownBy w' (g.cur id).ownBlock->(∀b,v'.ownBlock=some b->(g.cur id).ownBlock=some b∨w.heap.size<=b)->
           Good B w g h w' ⟨g.β,λj=>if j=id then v' else g.cur j⟩ (h.set id (.row F i.size (xs++ys) (s+1)))/\AR (ctx w' ⟨g.β,λj=>if j=id then v' else g.cur j⟩ (h.set id (.row F i.size (xs++ys) (s+1)))) (.tl id (s+1)) v':=λv' w' l Q S G r4=>by
          refine⟨turn_row T hB p η G Q S (.inr zb) r4,?_,⟨_,zr (xP p),rfl⟩,λs' σ=>?_⟩
          ·obtain⟨A,cp,e1,_⟩:=vc Q;exact⟨A,_,cp,e1⟩
          ·have:s+1=s':=by
            have:=σ;simp only[ctx,zr (xP p),Ob.tok,Option.some.injEq] at this;exact this
           exact⟨zb,λ_=>by simp[ctx]⟩
         cases K:A with
         | none=>
           have N:=E K;subst N;obtain⟨A0,cp,z1,z2⟩:=vc C;have o:=run_append_none (P:=P) (w:=w) (ty:=ty) X hi A0 xs.length cp k z2;rw[<-z1] at o;obtain⟨O,R⟩:=fin u w cells (by simpa using C) (by simpa using q3) ⟨rfl,rfl,rfl,zB _,λ_ _ _=>rfl⟩ (λb Z=> .inl (by have e:u=g.cur id:=n;rw[<-e];exact Z));exact⟨_,_,_,by simpa using o,O,R⟩
         | some m=>
           obtain⟨ν,news,n1,n2,n3,n4,n5⟩:=D ⟨m,K⟩;rw[K] at n1;injection n1 with n1;subst n1;obtain⟨v',w',Q,S,G,r4⟩:=run_append_own (P:=P) w B t ty F i z i.size i.bytes X hi q rfl rfl W h0 u xs.length cells C m ys.length k news n2 n3 n4 (by simp only[maxLen];omega) H hB;have θ:w.grownBy w' (g.cur id).ownBlock:=by have e:u=g.cur id:=n;rw[<-e];exact G
           obtain⟨O,R⟩:=fin v' w' (cells++news) (by rw[zp];exact S) (by rw[List.flatten_append];exact yj q3 n5) θ (λb Z=>by
            rcases append_blk (P:=P) (w:=w) X hi q h0 C n2 n3 n4 (by simp only[maxLen];omega) H Q b Z with h9|h9
            ·have e:u=g.cur id:=n;exact .inl (by rw[<-e];exact h9)
            ·exact .inr h9)
           exact⟨_,_,_,Q,O,R⟩
        ·cases a
       ·cases a
      ·split at a
       ·rename_i Y;injection a with a;injection a with hx1 hx2;subst hx1 hx2;have hs:u= .slice none 0 0:=hs;subst hs;have ζ:ys.length<=140737488355328:=Nat.le_trans (Nat.le_mul_of_pos_right _ zb) Y;have H:ys.length*i.bytes<=140737488355328:=Nat.le_trans (Nat.mul_le_mul_left _ zb) Y;cases K:A with
        | none=>
          have N:=E K;subst N;have o:=run_append_none (P:=P) (w:=w) (ty:=ty) X hi none 0 0 k (zB _);obtain⟨O,R⟩:=more_row T hB (ty:=e) h0 (xs:=[]) zh 0 (Below.refl _ w) (World.ownsRow_nil w B e i.size) rfl (by simp[Value.ownBlock]);exact⟨_,_,_,by simpa using o,O,R⟩
        | some m=>
          obtain⟨ν,news,n1,n2,n3,n4,n5⟩:=D ⟨m,K⟩;rw[K] at n1;injection n1 with n1;subst n1;obtain⟨v',w',Q,S,G,r4⟩:=run_append_own (P:=P) w w.heap.size t ty e i z i.size i.bytes X hi q rfl rfl W h0 (.slice none 0 0) 0 [] (World.ownsRow_nil w _ e i.size) m ys.length k news n2 n3 n4 (by simp only[maxLen];omega) (by simpa using H) (zB _);have γ:Below w.heap.size w w':=⟨G.os,G.tape,G.output,G.size,λk L=>G.block k L (by simp[Value.ownBlock])⟩;obtain⟨O,R⟩:=more_row T hB (ty:=e) h0 (λx a=>(c x a).1) 0 γ (KB (by simpa using S) hB) n5 (λb Z=>(World.ownsRow.lt S b Z).1);exact⟨_,_,_,Q,O,R⟩
       ·cases a
      ·cases a
   ·cases a
end
