import Derived.Test.YtigdlmpjijhpaaaGreatKA
import Derived.Test.YtigdlmpjijhpaaaGreatK00
import Derived.Laws.CopyRow
import Derived.Great.BuildSlice
import Derived.Laws.OwnMore
set_option linter.all false
namespace Go.Proofs.YtigdlmpjijhpaaaGreat.Ax
open Go Go.RowKit
def qha:Nat->List AV
 | 0=>[]
 | n+1=> .bad::qha n
def Qe(e:Nat):Nat->List AV->List (List AV)
 | 0,_=>[]
 | n+1,l=>l.take e::Qe e n (l.drop e)
def wJ(place:Nat->Option (Nat × Nat))(aZ:List AV):List (Nat × AV)->Option (List AV)
 | []=>some aZ
 | (i,a)::r=>match place i,a.cells with
   | some (off,size),some cs=>if cs.length=size then(lay aZ off cs).bind λb=>wJ place b r else none
   | _,_=>none
def JA(P:Program)(a:List (Nat × TypeId))(i:Nat):Option (Nat × Nat):=a[i]?.map λf=>(f.1,(zE P f.2).sz)
def yz(sz:Nat)(i:Nat):Option (Nat × Nat):=some (i*sz,sz)
def evs(T:Nat->AV):List (Nat × Operand)->List (Nat × AV)
 | []=>[]
 | (i,x)::r=>(i,ev T x)::evs T r
def evl(T:Nat->AV):List Operand->List AV
 | []=>[]
 | x::r=>ev T x::evl T r
def xQ:List AV->List AV->Option Bool
 | [],[]=>some true
 | .v (.int k a)::r,.v (.int k' b)::s=>if k=k' then(xQ r s).map λt=>a==b && t else none
 | _,_=>none
def wt(P:Program):Nat->List (Nat × TypeId)->Bool
 | _,[]=>true
 | o,f::r=>f.1==o && (match (zE P f.2).kind with | .int _=>true|_=>false) && wt P (o+1) r
def w5a(P:Program)(e:TypeId):Bool:=(match (zE P e).kind with | .int _=>true|_=>false) && (zE P e).sz==1
def j9(P:Program)(t:TypeId):Bool:= !P.eqGuardType P.depth t && !P.stoodInHeld t && (P.fieldsOf t).toList.all λf=>f.name != "_"
def kFa:BinOp->Bool
 | .shl | .shr=>true
 | _=>false
def j8a(op:BinOp)(k:IntKind)(a b:Int):Option AV:=match op with
 | .shr=>some (.v (.int k (a.fdiv (2 ^ min b.toNat k.bits))))
 | .shl=>some (.v (.int k (k.wrap (a*2 ^ min b.toNat k.bits))))
 | _=>none
def j9a(op:BinOp)(k:IntKind)(a b:Int):Option AV:=match op with
 | .add=>some (.v (.int k (k.wrap (a+b))))
 | .sub=>some (.v (.int k (k.wrap (a - b))))
 | .mul=>some (.v (.int k (k.wrap (a*b))))
 | .or=>some (.v (.int k (k.wrap ((BitVec.ofInt k.bits a ||| BitVec.ofInt k.bits b).toNat:Int))))
 | .quo=>if b=0 then none else some (.v (.int k (k.wrap (a.tdiv b))))
 | .rem=>if b=0 then none else some (.v (.int k (a.tmod b)))
 | .eql=>some (.v (.bool (a==b)))
 | .neq=>some (.v (.bool (a != b)))
 | .lss=>some (.v (.bool (decide (a<b))))
 | .leq=>some (.v (.bool (decide (a<=b))))
 | .gtr=>some (.v (.bool (decide (a>b))))
 | .geq=>some (.v (.bool (decide (a≥b))))
 | _=>none
def w6a(P:Program)(op:BinOp)(t:TypeId):AV->AV->Option AV
 | .v (.int k a),.v (.int k' b)=>if kFa op then(if 0<=b then j8a op k a b else none) else if k=k' then j9a op k a b else none
 | .v (.bool a),.v (.bool b)=>match (zE P t).kind,op with
   | .bool,.eql=>some (.v (.bool (a==b)))
   | .bool,.neq=>some (.v (.bool (!(a==b))))
   | _,_=>none
 | .ag xs,.ag ys=>match (zE P t).kind,op with
   | .struct c,.eql=>if j9 P t && wt P 0 c && xs.length==c.length then(xQ xs ys).map λb=> .v (.bool b) else none
   | .struct c,.neq=>if j9 P t && wt P 0 c && xs.length==c.length then(xQ xs ys).map λb=> .v (.bool (!b)) else none
   | .arr n e,.eql=>if j9 P t && w5a P e && xs.length==n then(xQ xs ys).map λb=> .v (.bool b) else none
   | _,_=>none
 | .v (.pointer none),.v (.pointer none)=>match (zE P t).kind,op with
   | .ptr _,.eql=>some (.v (.bool true))
   | .ptr _,.neq=>some (.v (.bool false))
   | _,_=>none
 | .ptr _ _,.v (.pointer none)=>match (zE P t).kind,op with
   | .ptr _,.eql=>some (.v (.bool false))
   | .ptr _,.neq=>some (.v (.bool true))
   | _,_=>none
 | .v (.string a),.v (.string b)=>match op with
   | .eql=>some (.v (.bool (a.toList==b.toList)))
   | .neq=>some (.v (.bool (!(a.toList==b.toList))))
   | _=>none
 | _,_=>none
def zxa:List (List AV)->Option (List UInt8)
 | []=>some []
 | [.v (.int .u8 n)]::r=>(zxa r).map (UInt8.ofNat n.toNat:: ·)
 | _=>none
def w7a(P:Program)(s:TypeId)(rows:List (List AV)):Option AV:=match (zE P s).kind with
 | .slice e=>match (zE P e).kind with
   | .int .u8=>(zxa rows).map λl=> .v (.string ⟨l.toArray⟩)
   | _=>none
 | _=>none
def qia:AV->List AV->Option AV
 | a,[]=>some a
 | .v (.int k x),.v (.int _ y)::r=>qia (.v (.int k (if y>x then y else x))) r
 | _,_=>none
def qja:AV->List AV->Option AV
 | a,[]=>some a
 | .v (.int k x),.v (.int _ y)::r=>qja (.v (.int k (if y<x then y else x))) r
 | _,_=>none
def Qf(h:List Ob)(τ:Ty):AV->Option AV
 | .ptr id off=>match h[id]? with
   | some (.box _ cs)=>if τ.ok then part cs off τ.agg τ.sz else none
   | _=>none
 | .ep a e i k=>if τ.ok/\eOf h a=some e then(zZ h a).bind λxs=>xs[i]?.bind λr=>part r k τ.agg τ.sz else none
 | _=>none
def yA(h:List Ob)(ns:List AV):AV->Option (List Ob)
 | .ptr id off=>match h[id]? with
   | some (.box ty cs)=>(lay cs off ns).map λcs'=>h.set id (.box ty cs')
   | _=>none
 | .ep (.tl id st) e i k=>match h[id]? with
   | some (.row ty a xs s)=>if s=st/\a=e then xs[i]?.bind λr=>(lay r k ns).map λb=>h.set id (.row ty e (xs.set i b) st) else none
   | _=>none
 | _=>none
def xaa(h:List Ob)(n:Int)(a:AV):Option AV:=
 (zZ h a).bind λxs=>(eOf h a).bind λe=>if 0<=n/\n<xs.length then some (.ep a e n.toNat 0) else none
def ZJ(P:Program)(h:List Ob)(e:TypeId)(s x:AV):Option (AV × List Ob):=
 let τ:=zE P e
 (zZ h x).bind λys=>
  if τ.ok/\0<τ.sz/\(τ.zero.map List.length)=some τ.sz/\ys.all (λr=>r.length==τ.sz && r.all AV.one) then
   match s with
   | .tl id st=>match h[id]? with
     | some (.row ty a xs s)=>if s=st/\ty=e/\a=τ.sz/\(xs.length+ys.length)*(τ.bytes+1)<=140737488355328 then some (.tl id (st+1),h.set id (.row ty a (xs++ys) (st+1))) else none
     | _=>none
   | .v (.slice none 0 0)=>if ys.length*(τ.bytes+1)<=140737488355328 then some (.tl h.length 0,h++[.row e τ.sz ys 0]) else none
   | _=>none
  else none
def XZa:AV->Bool
 | .em=>true
 | _=>false
def Qq:AV->Bool
 | .v (.slice none _ _)=>true
 | _=>false
def zya:Option (List (List AV))->Option Nat->Bool
 | some (_::_),some e=>decide (0<e)
 | _,_=>false
def JB(h:List Ob)(a:AV):Bool:=XZa a || zya (zZ h a) (eOf h a)
def Vr(op:BinOp)(b:Bool):Option AV:=match op with
 | .eql=>some (.v (.bool b))
 | .neq=>some (.v (.bool (!b)))
 | _=>none
def qka(P:Program)(h:List Ob)(op:BinOp)(t:TypeId)(a:AV):Option AV:=match (zE P t).kind with
 | .slice _=>if Qq a then Vr op true else if JB h a then Vr op false else none
 | _=>none
def QZ:Operand->Bool
 | .const (.slice none _ _)=>true
 | _=>false
def kp(h:List Ob):AV->Option (Nat × Nat × Nat × Nat)
 | .tl id st=>match h[id]? with
   | some (.row _ _ xs s)=>if s=st then some (id,st,0,xs.length) else none
   | _=>none
 | .vw (.tl id st) e i n=>match h[id]? with
   | some (.row _ a xs s)=>if s=st/\a=e/\i+n<=xs.length then some (id,st,i,n) else none
   | _=>none
 | _=>none
def xR(xs:List (List AV))(i:Nat)(ys:List (List AV)):List (List AV):=xs.take i++ys++xs.drop (i+ys.length)
def kT(h:List Ob)(id i:Nat)(ty e:Nat)(ys:List (List AV)):Option (List Ob):=match h[id]? with
 | some (.row a b xs st)=>if a=ty/\b=e/\ys.all (λr=>r.length==e && r.all AV.one) then some (h.set id (.row a b (xR xs i ys) st)) else none
 | _=>none
def Zn(P:Program)(T:Nat->AV)(h:List Ob)(c:Call):Option (AV × List Ob):=
 match c.callee,c.args.toList,c.argTypes.toList with
 | .builtin .len,[x],[t]=>match (zE P t).kind with
   | .slice _=>(zZ h (ev T x)).map λxs=>(.v (.int .i64 xs.length),h)
   | _=>none
 | .builtin .append,[s,x],[t,a]=>match (zE P t).kind with
   | .slice e=>if a=t then ZJ P h e (ev T s) (ev T x) else none
   | _=>none
 | .builtin .clear,[x],[t]=>match (zE P t).kind with
   | .slice e=>(kp h (ev T x)).bind λ(id,_,i,n)=>(zE P e).zero.bind λz=>
     if(zE P e).ok/\z.length=(zE P e).sz then(kT h id i e (zE P e).sz (List.replicate n (z.map .v))).map λh'=>(.tup [],h') else none
   | _=>none
 | .builtin .copy,[d,x],[t,a]=>match (zE P t).kind with
   | .slice e=>if a=t/\(zE P e).ok/\0<(zE P e).sz then(kp h (ev T d)).bind λ(id,_,i,n)=>(zZ h (ev T x)).bind λys=>
     (kT h id i e (zE P e).sz (ys.take n)).map λh'=>(.v (.int .i64 ((ys.take n).length:Nat)),h') else none
   | _=>none
 | .builtin .max,x::r,_=>(qia (ev T x) (evl T r)).map (·,h)
 | .builtin .min,x::r,_=>(qja (ev T x) (evl T r)).map (·,h)
 | _,_,_=>none
def kGa(τ:Ty):Option AV:=if τ.one then τ.zero.bind λz=>z.head?.map .v else none
def jp(P:Program)(T:Nat->AV):Op->Option (Ob × (Nat->AV))
 | .alloc t=>if(zE P t).ok then(zE P t).zero.map λz=>(.box t (z.map .v),λi=> .ptr i 0) else none
 | .box t x=>(ev T x).cells.map λcs=>(.box t cs,λi=> .ptr i 0)
 | .buildSlice t n a=>match (zE P t).kind with
   | .slice e=>if(zE P e).ok/\0<(zE P e).sz/\n*(zE P e).sz<=16777216/\(zE P e).zero.isSome then
     (wJ (yz (zE P e).sz) (qha (n*(zE P e).sz)) (evs T a.toList)).map λcs=>(.row e (zE P e).sz (Qe (zE P e).sz n cs) 0,λi=> .tl i 0) else none
   | _=>none
 | .makeSlice t l c=>match (zE P t).kind,ev T l,ev T c with
   | .slice e,.v (.int _ n),.v (.int _ m)=>if n=m/\0<=n/\n*((zE P e).bytes+1)<=140737488355328/\(zE P e).ok/\0<(zE P e).sz/\((zE P e).zero.map List.length)=some (zE P e).sz then
     (zE P e).zero.map λz=>(.row e (zE P e).sz (List.replicate n.toNat (z.map .v)) 0,λi=> .tl i 0) else none
   | _,_,_=>none
 | .makeMap t none=>match (zE P t).kind with
   | .mapk _ _=>some (.mapo [],λi=> .mp i)
   | _=>none
 | _=>none
def kr:AV × AV->Int
 | (.v (.int _ m),_)=>m
 | _=>0
def kK(kk:IntKind):List (AV × AV)->Bool
 | []=>true
 | (.v (.int k _),_)::r=>k==kk && kK kk r
 | _=>false
def jP(kk:IntKind)(n:Int)(v:AV):List (AV × AV)->List (AV × AV)
 | []=>[(.v (.int kk n),v)]
 | p::r=>if n<kr p then(.v (.int kk n),v)::p::r else p::jP kk n v r
def xV(n:Int):List (AV × AV)->Bool
 | []=>false
 | p::r=>kr p==n || xV n r
def xb(kk:IntKind)(n:Int)(v:AV):List (AV × AV)->List (AV × AV)
 | []=>[]
 | p::r=>(if kr p=n then(.v (.int kk n),v) else p)::xb kk n v r
def Qj(kk:IntKind)(n:Int)(v:AV)(es:List (AV × AV)):Option (List (AV × AV)):=
 if kK kk es then some (if xV n es then xb kk n v es else jP kk n v es) else none
def Qg(n:Int)(z:AV):List (AV × AV)->AV × Bool
 | []=>(z,false)
 | p::r=>(if kr p=n then p.2 else(Qg n z r).1,kr p==n || (Qg n z r).2)
def qla(kk:IntKind)(n:Int)(z:AV)(es:List (AV × AV)):Option (AV × Bool):=if kK kk es then some (Qg n z es) else none
def y8(T:Nat->AV)(d:Int):Option Operand->Option Int
 | none=>some d
 | some x=>match ev T x with
   | .v (.int _ n)=>some n
   | _=>none
def zW(P:Program)(T:Nat->AV)(h:List Ob):Op->Option (AV × List Ob)
 | .move x=>some (ev T x,h)
 | .assign x=>some (ev T x,h)
 | .pick c a b=>match ev T c with
   | .v (.bool t)=>some (if t then ev T a else ev T b,h)
   | _=>none
 | .alloc t=>(jp P T (.alloc t)).map λq=>(q.2 h.length,h++[q.1])
 | .box t x=>(jp P T (.box t x)).map λq=>(q.2 h.length,h++[q.1])
 | .buildSlice t n j=>(jp P T (.buildSlice t n j)).map λq=>(q.2 h.length,h++[q.1])
 | .makeSlice t l c=>(jp P T (.makeSlice t l c)).map λq=>(q.2 h.length,h++[q.1])
 | .makeMap t r=>(jp P T (.makeMap t r)).map λq=>(q.2 h.length,h++[q.1])
 | .build t j=>match (zE P t).kind with
   | .struct g=>if g.all (λf=>(zE P f.2).ok) then(zE P t).zero.bind λz=>(wJ (JA P g) (z.map .v) (evs T j.toList)).map λcs=>(.ag cs,h) else none
   | .arr _ e=>if(zE P e).ok then(zE P t).zero.bind λz=>(wJ (yz (zE P e).sz) (z.map .v) (evs T j.toList)).map λcs=>(.ag cs,h) else none
   | _=>none
 | .load t a=>(Qf h (zE P t) (ev T a)).map (·,h)
 | .store t a x=>if(zE P t).ok then(ev T x).cells.bind λns=>if ns.length=(zE P t).sz then(yA h ns (ev T a)).map λh'=>(.v undef,h') else none else none
 | .nilCheck x=>match ev T x with
   | .ptr id off=>some (.ptr id off,h)
   | .ep a e i k=>some (.ep a e i k,h)
   | .fn (.func f) a b=>some (.fn (.func f) a b,h)
   | _=>none
 | .binOp op t x y _=>(if QZ y then qka P h op t (ev T x) else w6a P op t (ev T x) (ev T y)).map (·,h)
 | .unOp op _ x=>match op,ev T x with
   | .neg,.v (.int k n)=>some (.v (.int k (k.wrap (0 - n))),h)
   | .not,.v (.bool b)=>some (.v (.bool (!b)),h)
   | _,_=>none
 | .convert s d x=>match (zE P s).ok,(zE P d).kind,ev T x with
   | true,.int k,.v (.int _ n)=>some (.v (.int k (k.wrap n)),h)
   | true,.str,.sl 1 rows=>(w7a P s rows).map (·,h)
   | _,_,_=>none
 | .makeFunc f a b=>some (.fn f (evl T a.toList) (evl T b.toList),h)
 | .fieldAddr t x i=>match (zE P t).kind with
   | .struct g=>g[i]?.bind λf=>if(zE P f.2).ok/\0<(zE P f.2).sz then(match ev T x with
     | .ptr id off=>some (.ptr id (off+f.1),h)
     | .ep a e i k=>some (.ep a e i (k+f.1),h)
     | _=>none) else none
   | _=>none
 | .field t x i=>match (zE P t).kind,ev T x with
   | .struct g,.ag cs=>g[i]?.bind λf=>if(zE P f.2).ok then(part cs f.1 (zE P f.2).agg (zE P f.2).sz).map (·,h) else none
   | _,_=>none
 | .indexAddr t x i=>match (zE P t).kind,ev T i with
   | .slice e,.v (.int _ n)=>if(zE P e).ok/\0<(zE P e).sz/\eOf h (ev T x)=some (zE P e).sz then(xaa h n (ev T x)).map (·,h) else none
   | .arr m e,.v (.int _ n)=>if(zE P e).ok/\0<=n/\n<m then(match ev T x with
     | .ptr id off=>some (.ptr id (off+n.toNat*(zE P e).sz),h)
     | .ep a u i k=>some (.ep a u i (k+n.toNat*(zE P e).sz),h)
     | _=>none) else none
   | _,_=>none
 | .index t x i=>match (zE P t).kind,ev T x,ev T i with
   | .arr m e,.ag cs,.v (.int _ n)=>if(zE P e).ok/\0<=n/\n<m then(part cs (n.toNat*(zE P e).sz) (zE P e).agg (zE P e).sz).map (·,h) else none
   | _,_,_=>none
 | .slice t x lo hi none=>match (zE P t).kind with
   | .slice e=>(zZ h (ev T x)).bind λxs=>(y8 T 0 lo).bind λl=>(y8 T xs.length hi).bind λm=>
     if(zE P e).ok/\0<=l/\l<=m/\m<=xs.length/\(l=m∨(0<(zE P e).sz/\eOf h (ev T x)=some (zE P e).sz)) then some (.vw (ev T x) (zE P e).sz l.toNat (m.toNat - l.toNat),h) else none
   | _=>none
 | .insert t m k v=>match (zE P t).kind,ev T m,ev T k with
   | .mapk o _,.mp id,.v (.int kk n)=>match (zE P o).kind,h[id]? with
     | .int kk',some (.mapo es)=>if kk'=kk then(Qj kk n (ev T v) es).map λes'=>(.v undef,h.set id (.mapo es')) else none
     | _,_=>none
   | _,_,_=>none
 | .lookup t m k ok=>match (zE P t).kind,ev T m,ev T k with
   | .mapk o w,.mp id,.v (.int kk n)=>match (zE P o).kind,h[id]?,kGa (zE P w) with
     | .int kk',some (.mapo es),some z=>if kk'=kk then(qla kk n z es).map λp=>(if ok then .tup [p.1,.v (.bool p.2)] else p.1,h) else none
     | _,_,_=>none
   | _,_,_=>none
 | .extract x i=>match ev T x with
   | .tup cs=>if i<cs.length then some (nth cs i,h) else none
   | _=>none
 | .call c=>Zn P T h c
 | _=>none
section
variable {c:Ctx}
theorem qma:∀(vs:List Value),ARs c (qha vs.length) vs
 | []=>rfl
 | v::r=>⟨v,r,rfl,trivial,qma r⟩
theorem qna(off:Nat):∀(us:List Value) (k:Nat) (cells:Array Value),off+k+us.length<=cells.size->
  ((us.zipIdx k).foldl (λcs (p:Value × Nat)=>cs.setIfInBounds (off+p.2) p.1) cells).toList=cells.toList.take (off+k)++us++cells.toList.drop (off+k+us.length)
 | [],k,cells,_=>by simp
 | u::us,k,cells,h=>by
   have h:off+k+(us.length+1)<=cells.size:=by simpa using h
   rw[List.zipIdx_cons,List.foldl_cons,qna off us (k+1) _ (by simp;omega)]
   apply qD
   intro j
   simp only[Array.toList_setIfInBounds,List.getElem?_append,zX,zP,qP,ze,List.length_cons]
   by_cases a:j<off+k
   ·simp[a,show j<off+(k+1) by omega,show min (off+(k+1)) cells.size=off+(k+1) by omega,show min (off+k) cells.size=off+k by omega,show j<off+(k+1)+us.length by omega,show j<off+k+(us.length+1) by omega,show off+k≠j by omega]
   ·by_cases c:j=off+k
    ·subst c
     simp[show min (off+(k+1)) cells.size=off+(k+1) by omega,show min (off+k) cells.size=off+k by omega,show off+k<off+(k+1) by omega,show off+k<off+(k+1)+us.length by omega,show off+k<cells.size by omega]
    ·by_cases b:j<off+k+(us.length+1)
     ·simp[a,b,show ¬ j<off+(k+1) by omega,show min (off+(k+1)) cells.size=off+(k+1) by omega,show min (off+k) cells.size=off+k by omega,show j<off+(k+1)+us.length by omega,show j - (off+k)=(j - (off+(k+1)))+1 by omega]
     ·simp[a,b,show ¬ j<off+(k+1)+us.length by omega,show min (off+(k+1)) cells.size=off+(k+1) by omega,show min (off+k) cells.size=off+k by omega]
      rw[zc (by omega)]
      rw[show off+(k+1)+us.length+(j - (off+(k+1)+us.length))=j by omega,show off+k+(us.length+1)+(j - (off+k+(us.length+1)))=j by omega]
      simp
def X0a(c:Ctx):List (Nat × AV)->List (Nat × Value)->Prop
 | [],b=>b=[]
 | (i,a)::r,b=>∃v q,b=(i,v)::q/\AR c a v/\X0a c r q
theorem Xh(place:Nat->Option (Nat × Nat)):∀(s:List (Nat × AV)) (d:List (Nat × Value)) (aZ rs:List AV) (cells:Array Value),X0a c s d->ARs c aZ cells.toList->wJ place aZ s=some rs->
  ∃b,Instr.fill place cells d=some b/\ARs c rs b.toList
 | [],d,aZ,rs,cells,m,l,h=>by
   have m:d=[]:=m
   subst m
   injection h with h
   subst h
   exact⟨cells,rfl,l⟩
 | (i,a)::r,d,aZ,rs,cells,⟨v,q,u,t,w⟩,l,h=>by
   subst u
   simp only[wJ] at h
   split at h
   ·rename_i off size cs j g
    split at h
    ·rename_i o
     cases e:lay aZ off cs with
     | none=>rw[e] at h;cases h
     | some n=>
       rw[e] at h
       obtain⟨p,E⟩:=Vo g t
       have f:v.cells.size=size:=by
        have:=kR p
        simp at this
        omega
       obtain⟨C,y⟩:=Xe l off p e
       have B:off+v.cells.size<=cells.size:=by simpa using y
       have A:=qna off v.cells.toList 0 cells (by simpa using B)
       have k:(v.cells.zipIdx.foldl (λcs (x:Value × Nat)=>cs.setIfInBounds (off+x.2) x.1) cells).toList=cells.toList.take off++v.cells.toList++cells.toList.drop (off+v.cells.toList.length):=by
        rw[<-Array.foldl_toList,Array.toList_zipIdx]
        simpa using A
       obtain⟨b,D,z⟩:=Xh place r q n rs (v.cells.zipIdx.foldl (λcs (x:Value × Nat)=>cs.setIfInBounds (off+x.2) x.1) cells) w (by rw[k];exact C) h
       refine⟨b,?_,z⟩
       simp only[Instr.fill,j,f]
       rw[if_neg (by simp;omega)]
       exact D
    ·cases h
   ·cases h
theorem Jq(e:Nat):∀(n:Nat) (l:List AV),l.length=n*e->(Qe e n l).flatten=l/\(∀x∈Qe e n l,x.length=e)/\(Qe e n l).length=n
 | 0,l,h=>by
   have:l=[]:=zz (by simpa using h)
   subst this
   simp[Qe]
 | n+1,l,h=>by
   rw[Nat.succ_mul] at h
   obtain⟨d,b,c⟩:=Jq e n (l.drop e) (by simp;omega)
   refine⟨by simp[Qe,d],λx a=>?_,by simp[Qe,c]⟩
   simp only[Qe,zH] at a
   rcases a with rfl|a
   ·simp;omega
   ·exact b x a
end
section
variable {B:Nat} {w:World} {g:Gh} {h h':List Ob} {P:Program} {T:Nat->AV} {a:Act} {x:AV}
def Did(P:Program)(s:Sem Next)(B:Nat)(w:World)(g:Gh)(h:List Ob)(x:AV)(h':List Ob):Prop:=
 ∃a v w' g',s.run P w= .ok a w'/\(a= .value v∨(a= .skip/\v=undef))/\Good B w g h w' g' h'/\AR (ctx w' g' h') x v
def DidV(P:Program)(s:Sem Value)(B:Nat)(w:World)(g:Gh)(h:List Ob)(x:AV)(h':List Ob):Prop:=
 ∃v w' g',s.run P w= .ok v w'/\Good B w g h w' g' h'/\AR (ctx w' g' h') x v
theorem DidV.did{s:Sem Value}(d:DidV P s B w g h x h'):Did P (do pure (.value (<-s))) B w g h x h':=by
 obtain⟨v,w',g',c,a,b⟩:=d
 exact⟨.value v,v,w',g',by simp[c],.inl rfl,a,b⟩
theorem ju{s:Sem Value}{v:Value}(a:HOk B w g h)(hB:B<=w.heap.size)(b:s.run P w= .ok v w)(c:AR (ctx w g h) x v):DidV P s B w g h x h:=
 ⟨v,w,g,b,Good.refl a hB,c⟩
def wK(c:Ctx)(T:Nat->AV)(a:Act):Prop:=∀i,AR c (T i) (a.tmps.getD i undef)
theorem jC{c:Ctx}(b:wK c T a):∀(x:Operand),AR c (ev T x) (a.eval x)
 | .tmp i=>b i
 | .const x=>XVa x
 | .func f=>⟨#[], #[],rfl,rfl,rfl⟩
 | .global _=>trivial
theorem yB{c:Ctx}(b:wK c T a){x:Operand}{u:Value}(e:ev T x= .v u):a.eval x=u:=by
 have:=jC b x;rw[e] at this;exact this
theorem ZK{c:Ctx}(b:wK c T a):∀(l:List Operand),ARs c (evl T l) (l.map a.eval)
 | []=>rfl
 | x::r=>⟨_,_,rfl,jC b x,ZK b r⟩
theorem K9{c:Ctx}(b:wK c T a):∀(l:List (Nat × Operand)),X0a c (evs T l) (l.map λ(i,x)=>(i,a.eval x))
 | []=>rfl
 | (i,x)::r=>⟨_,_,rfl,jC b x,K9 b r⟩
theorem zza{t:TypeId}{z:List Value}(h:(zE P t).zero=some z):(zE P t).ok=true:=by
 unfold zE at h⊢
 split at h
 ·rfl
 ·cases h
theorem jl{t:TypeId}{k:K}(h:(zE P t).kind=k)(a:k≠ .other):(zE P t).ok=true:=by
 unfold zE at h⊢
 split at h
 ·rfl
 ·exact absurd h.symm a
theorem Vs{t:TypeId}{i:TypeInfo}{z:Value}(hi:P.info? t=some i)(a:i.zero=some z):(zeroValue t).run P w= .ok z w:=by simp[zeroValue,typeInfo,hi,a]
inductive Made (B:Nat) (w:World) (g:Gh) (h:List Ob) (w':World) (v:Value):Ob->(Nat->AV)->Prop where
 | box (ty:TypeId) (cs:List AV) (vs:Array Value) (hw:w'=w.alloc (.cells vs ty)) (hv:v= .pointer (some ⟨w.heap.size,0,none⟩)) (hn:ARs (ctx w g h) cs vs.toList):Made B w g h w' v (.box ty cs) λi=> .ptr i 0
 | row (ty e:Nat) (xs:List (List AV)) (cells:List Value) (he:0<e) (hx:∀x∈xs,x.length=e) (hb:Below w.heap.size w w') (hown:w'.ownsRow B ty e v xs.length cells) (hn:ARs (ctx w g h) xs.flatten cells)
   (hbl:∀b,v.ownBlock=some b->w.heap.size<=b):Made B w g h w' v (.row ty e xs 0) λi=> .tl i 0
 | map (hw:w'=w.alloc (.map #[] 0)) (hv:v= .map (some w.heap.size)):Made B w g h w' v (.mapo []) λi=> .mp i
theorem Made.more{w':World}{v:Value}{o:Ob}{mk:Nat->AV}(m:Made B w g h w' v o mk)(i:HOk B w g h)(hB:B<=w.heap.size):∃g',Good B w g h w' g' (h++[o])/\AR (ctx w' g' (h++[o])) (mk h.length) v:=by
 cases m with
 | box ty cs vs b c f=>subst b c;exact⟨_,w3a i hB f⟩
 | row ty e xs cells j l k a f d=>exact⟨_,Qo i hB j l 0 k a f d⟩
 | map b c=>subst b c;exact⟨_,w4a i hB⟩
theorem Made.at{w':World}{v:Value}{o:Ob}{mk:Nat->AV}(m:Made B w g h w' v o mk)(j:HOk B w g h)(hB:B<=w.heap.size){i:Nat}(hi:h[i]? =some .res):∃g',Good B w g h w' g' (h.set i o)/\AR (ctx w' g' (h.set i o)) (mk i) v:=by
 cases m with
 | box ty cs vs b c f=>subst b c;exact⟨_,XWa j hB hi f⟩
 | row ty e xs cells k n l a f d=>exact⟨_,XXa j hB hi k n 0 l a f d⟩
 | map b c=>subst b c;exact⟨_,XYa j hB hi⟩
theorem Made.live{w':World}{v:Value}{o:Ob}{mk:Nat->AV}(m:Made B w g h w' v o mk):o.isRes=false:=by cases m<;>rfl
theorem vya(k:HOk B w g h){t:TypeId}{z:List Value}(c:(zE P t).ok=true)(a:(zE P t).zero=some z):
  ∃v w',(Instr.alloc t true (.tuple #[])).run P w= .ok v w'/\Made B w g h w' v (.box t (z.map .v)) (λi=> .ptr i 0):=by
 obtain⟨d,i,j,hi,e⟩:=jj c
 rw[e] at a
 cases b:i.zero with
 | none=>rw[b] at a;cases a
 | some f=>
   rw[b] at a
   injection a with a
   subst a
   exact⟨_,_,by simp[Instr.alloc,Vs hi b,newVar,newRow],.box t _ f.cells rfl rfl (Xd _)⟩
theorem Qza(c:HOk B w g h){t:TypeId}{y:AV}{v:Value}{cs:List AV}(a:AR (ctx w g h) y v)(b:y.cells=some cs):
  ∃u w',(Instr.box t v).run P w= .ok u w'/\Made B w g h w' u (.box t cs) (λi=> .ptr i 0):=
 ⟨_,_,by simp[Instr.box,newVar,newRow],.box t _ v.cells rfl rfl (Vo b a).1⟩
theorem Yq:∀(a:List Field),(a.all λf=>(zE P f.type).ok)=true->a.mapM (λf=>(P.info? f.type).map λi=>(f.offset,i.size))=some (a.map λf=>(f.offset,(zE P f.type).sz))
 | [],_=>rfl
 | f::a,h=>by
   rw[List.all_cons,zj] at h
   obtain⟨d,i,b,hi,e⟩:=jj h.1
   simp[List.mapM_cons,hi,Yq a h.2,e]
theorem vza(F:HOk B w g h)(hB:B<=w.heap.size)(E:wK (ctx w g h) T a){t:TypeId}{p:Array (Nat × Operand)}{o:List (Nat × TypeId)}{z:List Value}{cs:List AV}
  (m:(zE P t).kind= .struct o) (r:o.all (λf=>(zE P f.2).ok)=true) (k:(zE P t).zero=some z) (s:wJ (JA P o) (z.map .v) (evs T p.toList)=some cs):
  DidV P (Instr.build t (p.map λ(i,x)=>(i,a.eval x))) B w g h (.ag cs) h:=by
 have C:=zza k
 obtain⟨d,i,y,hi,e⟩:=jj C
 rw[e] at k m
 cases d<;>try (cases m;done)
 rename_i fields
 injection m with m
 cases l:i.zero with
 | none=>rw[l] at k;cases k
 | some A=>
   rw[l] at k
   injection k with k
   subst k
   have n:(fields.toList.all λf=>(zE P f.type).ok)=true:=by rw[<-m,List.all_map] at r;exact r
   have q:=Yq (P:=P) fields.toList n
   obtain⟨b,D,u⟩:=Xh (c:=ctx w g h) (JA P o) (evs T p.toList) (p.toList.map λ(i,x)=>(i,a.eval x)) _ cs A.cells (K9 E _) (Xd _) s
   refine ju F hB (v:= .agg b) (run_build w t _ b ?_) ⟨b,rfl,u⟩
   unfold Program.built
   simp only[hi,y,l,q]
   have:(λx=>(fields.toList.map λf=>(f.offset,(zE P f.type).sz)).toArray[x]?)=JA P o:=by
    funext j
    rw[<-m]
    simp[JA,Option.map_map,Function.comp_def]
   rw[this]
   simpa using D
theorem W0(H:HOk B w g h)(hB:B<=w.heap.size)(A:wK (ctx w g h) T a){t e:TypeId}{m:Nat}{l:Array (Nat × Operand)}{z:List Value}{cs:List AV}
  (q:(zE P t).kind= .arr m e) (G:(zE P e).ok=true) (f:(zE P t).zero=some z) (s:wJ (yz (zE P e).sz) (z.map .v) (evs T l.toList)=some cs):
  DidV P (Instr.build t (l.map λ(i,x)=>(i,a.eval x))) B w g h (.ag cs) h:=by
 have I:=zza f
 obtain⟨d,i,E,hi,u⟩:=jj I
 rw[u] at f q
 cases d<;>try (cases q;done)
 rename_i n k
 injection q with hk1 hk2
 subst hk2
 obtain⟨K,y,C,o,r⟩:=jj G
 cases j:i.zero with
 | none=>rw[j] at f;cases f
 | some F=>
   rw[j] at f
   injection f with f
   subst f
   obtain⟨b,J,D⟩:=Xh (c:=ctx w g h) (yz (zE P k).sz) (evs T l.toList) (l.toList.map λ(i,x)=>(i,a.eval x)) _ cs F.cells (K9 A _) (Xd _) s
   refine ju H hB (v:= .agg b) (run_build w t _ b ?_) ⟨b,rfl,D⟩
   unfold Program.built
   simp only[hi,E,j,o]
   have p:y.size=(zE P k).sz:=by rw[r]
   rw[p]
   have:(λi=>some (i*(zE P k).sz,(zE P k).sz))=yz (zE P k).sz:=rfl
   rw[this]
   simpa using J
theorem xba(hh:HOk B w g h)(hB:B<=w.heap.size)(V:wK (ctx w g h) T a){t e:TypeId}{n:Nat}{r:Array (Nat × Operand)}{cs:List AV}
  (u:(zE P t).kind= .slice e) (ho:(zE P e).ok=true) (h0:0<(zE P e).sz) (hn:n*(zE P e).sz<=16777216) (D:(zE P e).zero.isSome=true)
  (J:wJ (yz (zE P e).sz) (qha (n*(zE P e).sz)) (evs T r.toList)=some cs):
  ∃v w',(Instr.buildSlice t n (r.map λ(i,x)=>(i,a.eval x))).run P w= .ok v w'/\Made B w g h w' v (.row e (zE P e).sz (Qe (zE P e).sz n cs) 0) (λi=> .tl i 0):=by
 have ht:=jl u (by simp)
 obtain⟨d,i,R,hi,eq⟩:=jj ht
 rw[eq] at u
 cases d<;>try (cases u;done)
 injection u with u
 subst u
 rename_i e
 obtain⟨d',o,Y,C,E⟩:=jj ho
 have G:(zE P e).sz=o.size:=by rw[E]
 rw[G] at h0 hn J⊢
 cases A:o.zero with
 | none=>rw[E] at D;simp[A] at D
 | some z=>
   obtain⟨k,U,Q⟩:=Xh (c:=ctx w g h) (yz o.size) (evs T r.toList) (r.toList.map λ(i,x)=>(i,a.eval x)) _ cs ((Array.range (n*o.size)).map (z.cells[· % z.cells.size]!)) (K9 V _)
    (by have:=qma (c:=ctx w g h) ((Array.range (n*o.size)).map (z.cells[· % z.cells.size]!)).toList;simpa using this) J
   have M:cs.length=n*o.size:=by
    have key:∀(l:List (Nat × AV)) (aZ rs:List AV),wJ (yz o.size) aZ l=some rs->rs.length=aZ.length:=by
     intro l
     induction l with
     | nil=>intro aZ rs h;injection h with h;rw[h]
     | cons p l K=>
       intro aZ rs h
       obtain⟨j,y⟩:=p
       simp only[wJ] at h
       split at h
       ·split at h
        ·rename_i off size us hp hy hl
         cases q:lay aZ off us with
         | none=>rw[q] at h;cases h
         | some η=>rw[q] at h;rw[K _ _ h,K7 q]
        ·cases h
       ·cases h
    have O:∀m,(qha m).length=m:=λm=>by induction m with|zero=>rfl|succ m K=>simp[qha,K]
    rw[key _ _ _ J,O]
   obtain⟨X,c2,c3⟩:=Jq o.size n cs M
   have s:k.size=n*o.size:=by have:=kR Q;simp at this;omega
   have H:(Instr.buildSlice t n (r.map λ(i,x)=>(i,a.eval x))).run P w= .ok (.slice (some ⟨w.heap.size,0,none⟩) n n) (w.alloc (.cells k e)):=by
    by_cases F:n*o.size=0
    ·have L:n=0:=by
      rcases Nat.mul_eq_zero.1 F with h|h
      ·exact h
      ·omega
     subst L
     have e0:((Array.range 0).map (z.cells[· % z.cells.size]!))= #[]:=by simp
     have S:Instr.fill (λi=>some (i*o.size,o.size)) #[] (r.map λ(i,x)=>(i,a.eval x)).toList=some k:=by
      have:=U
      rw[Nat.zero_mul,e0] at this
      rw[Array.toList_map]
      exact this
     generalize (r.map λ(i,x)=>(i,a.eval x))=qs at S
     have Z:∀f:Nat->Value,(Array.range 0).map f= #[]:=λf=>by simp[Array.range]
     simp[Instr.buildSlice,run_underlying R,sizeOf,typeInfo,C,Z,S,newRow]
    ·exact run_buildSlice w t e n _ k o z R C A (by omega) F (by rw[Array.toList_map];exact U)
   have W:n<=maxLen:=by
    have:n<=n*o.size:=Nat.le_mul_of_pos_right n h0
    simp only[maxLen]
    omega
   have N:k.toList.take (n*o.size)=k.toList:=List.take_of_length_le (by simp[s])
   have I:(w.alloc (.cells k e)).ownsRow B e o.size (.slice (some ⟨w.heap.size,0,none⟩) n n) (Qe o.size n cs).length k.toList:=by
    rw[c3]
    exact⟨by simpa using s,.inr ⟨w.heap.size,n,k,rfl,hB,heap_alloc_new w _,zo _,W,s,N⟩⟩
   exact⟨_,_,H,.row e o.size _ _ h0 c2 ((Below.refl _ w).alloc (zo _) _) I (by rw[X];exact Q) (λb O=>by simp[Value.ownBlock] at O;omega)⟩
theorem Jr(z:Array Value)(n:Nat):(madeCells z (n*z.size)).toList=(List.replicate n z.toList).flatten:=by
 by_cases t:z.size=0
 ·have b:z= #[]:=Array.eq_empty_of_size_eq_zero t
  subst b
  have:(List.replicate n ([]:List Value)).flatten=[]:=by rw[List.flatten_eq_nil_iff];intro l c;exact List.eq_of_mem_replicate c
  simp[madeCells,this,Array.range_zero']
 ·have h:∀x∈List.replicate n z.toList,x.length=z.size:=λx d=>by rw[List.eq_of_mem_replicate d];simp
  have c:(List.replicate n z.toList).flatten.length=n*z.size:=by
   have:∀m,(List.replicate m z.toList).flatten.length=m*z.size:=λm=>by
    induction m with
    | zero=>simp
    | succ m p=>rw[List.replicate_succ,List.flatten_cons,ze,p,Nat.succ_mul];simp;omega
   exact this n
  apply qD
  intro j
  by_cases g:j<n*z.size
  ·have f:j % z.size<z.size:=Nat.mod_lt _ (by omega)
   have o:j / z.size<n:=by rw[Nat.div_lt_iff_lt_mul (by omega)];exact g
   have u:(List.replicate n z.toList)[j / z.size]? =some z.toList:=by rw[List.getElem?_replicate,if_pos o]
   have q:z.toList[j % z.size]? =some z[j % z.size]:=by simp[f]
   have key:∀ {xs:List (List Value)},(∀x∈xs,x.length=z.size)->∀ {i k:Nat} {r:List Value} {a:Value},xs[i]? =some r->r[k]? =some a->xs.flatten[i*z.size+k]? =some a:=λd _ _ _ _ hi s=>y7 d hi s
   have e:=key h u q
   rw[show j / z.size*z.size+j % z.size=j by rw[Nat.mul_comm];exact Nat.div_add_mod j z.size] at e
   rw[e]
   simp[madeCells,g,f]
  ·rw[qf (by simp[madeCells];omega),qf (by rw[c];omega)]
theorem xca(S:HOk B w g h)(hB:B<=w.heap.size){t e:TypeId}{k1 k2:IntKind}{n:Int}{z:List Value}
  (j:(zE P t).kind= .slice e) (O:0<=n) (s:n*((zE P e).bytes+1)<=140737488355328) (M:(zE P e).ok=true) (h0:0<(zE P e).sz) (r:(zE P e).zero=some z) (u:z.length=(zE P e).sz):
  ∃v w',(Instr.makeSlice t (.int k1 n) (.int k2 n)).run P w= .ok v w'/\Made B w g h w' v (.row e (zE P e).sz (List.replicate n.toNat (z.map .v)) 0) (λi=> .tl i 0):=by
 obtain⟨d,it,H,J,eq⟩:=jj (jl j (by simp))
 rw[eq] at j
 cases d<;>try (cases j;done)
 injection j with j
 subst j
 rename_i e
 obtain⟨T,i,L,hi,c⟩:=jj M
 have C:(zE P e).sz=i.size:=by rw[c]
 have A:(zE P e).bytes=i.bytes:=by rw[c]
 rw[C] at h0 u⊢
 rw[A] at s
 cases a:i.zero with
 | none=>rw[c] at r;simp[a] at r
 | some o=>
   have p:o.cells.toList=z:=by rw[c] at r;simpa [a] using r
   obtain⟨m,rfl⟩:=Int.eq_ofNat_of_zero_le O
   have E:m*(i.bytes+1)<=140737488355328:=by
    have:((m*(i.bytes+1):Nat):Int)<=140737488355328:=by simpa using s
    omega
   rw[Nat.mul_add,Nat.mul_one,Nat.mul_comm] at E
   have l:o.cells.size=i.size:=by rw[<-u, <-p];simp
   obtain⟨w',G,Q,q⟩:=run_make_full (P:=P) w B t e i o i.size H hi a rfl k1 k2 m (by omega) (by simp only[maxLen];omega) hB
   obtain⟨I,F,N,_⟩:=run_make_full (P:=P) w w.heap.size t e i o i.size H hi a rfl k1 k2 m (by omega) (by simp only[maxLen];omega) (zo _)
   have D:I=w':=by rw[G] at F;injection F with _ h;exact h.symm
   subst D
   refine⟨_,I,G,?_⟩
   have f:(madeCells o.cells (m*i.size)).toList=(List.replicate m z).flatten:=by rw[<-l,Jr,p]
   have y:(List.replicate m (z.map AV.v)).flatten=(List.replicate m z).flatten.map AV.v:=by
    induction m with
    | zero=>simp
    | succ m R=>simp[List.replicate_succ]
   simp only[Int.toNat_natCast,Int.ofNat_eq_natCast]
   refine .row e i.size _ (madeCells o.cells (m*i.size)).toList h0 (λx K=>by rw[List.eq_of_mem_replicate K];simp[u]) ⟨q.os,q.tape,q.output,q.size,λk j=>q.block k j (by simp)⟩ (by simpa using Q) ?_ (λb s=>(World.ownsRow.lt N b s).1)
   rw[y,f]
   exact Xd _
theorem Vt(q:HOk B w g h)(hB:B<=w.heap.size)(p:wK (ctx w g h) T a){op:Op}{o:Ob}{mk:Nat->AV}(b:jp P T op=some (o,mk))(dst:Option Tmp)(type:TypeId)(pos:String)(after:Array Edge)(guard:Option (Nat × Bool)):
  ∃v w',(execOp a.eval ⟨dst,op,type,pos,after,guard⟩).run P w= .ok (.value v) w'/\Made B w g h w' v o mk:=by
 unfold jp at b
 split at b
 ·rename_i t
  split at b
  ·rename_i E
   cases i:(zE P t).zero with
   | none=>rw[i] at b;cases b
   | some z=>
     rw[i] at b
     injection b with b;injection b with hx1 hx2;subst hx1 hx2
     obtain⟨v,w',j,f⟩:=vya (P:=P) q E i
     exact⟨v,w',by simp[execOp,j],f⟩
  ·cases b
 ·rename_i t y
  cases d:(ev T y).cells with
  | none=>rw[d] at b;cases b
  | some cs=>
    rw[d] at b
    injection b with b;injection b with hx1 hx2;subst hx1 hx2
    obtain⟨v,w',j,f⟩:=Qza (P:=P) (t:=t) q (jC p y) d
    exact⟨v,w',by simp[execOp,j],f⟩
 ·rename_i t n A
  split at b
  ·rename_i e r
   split at b
   ·rename_i k
    cases d:wJ (yz (zE P e).sz) (qha (n*(zE P e).sz)) (evs T A.toList) with
    | none=>rw[d] at b;cases b
    | some cs=>
      rw[d] at b
      injection b with b;injection b with hx1 hx2;subst hx1 hx2
      obtain⟨v,w',j,f⟩:=xba q hB p r k.1 k.2.1 k.2.2.1 k.2.2.2 d
      exact⟨v,w',by simp[execOp,j],f⟩
   ·cases b
  ·cases b
 ·rename_i t l c
  split at b
  ·rename_i e k1 n k2 m r D d
   split at b
   ·rename_i k
    obtain⟨s,F,x,u,f5,f6⟩:=k
    subst s
    cases i:(zE P e).zero with
    | none=>rw[i] at b;cases b
    | some z=>
      rw[i] at b f6
      injection b with b;injection b with hx1 hx2;subst hx1 hx2
      have j:=yB p D
      have f:=yB p d
      obtain⟨v,w',C,G⟩:=xca (P:=P) (k1:=k1) (k2:=k2) q hB r F x u f5 i (by simpa using f6)
      exact⟨v,w',by simp[execOp,j,f,C],G⟩
   ·cases b
  ·cases b
 ·rename_i t
  split at b
  ·injection b with b;injection b with hx1 hx2;subst hx1 hx2
   exact⟨.map (some w.heap.size),w.alloc (.map #[] 0),by simp[execOp,Instr.makeMap,newObj];rfl,.map rfl rfl⟩
  ·cases b
 ·cases b
end
section
variable {B:Nat} {w:World} {g:Gh} {h h':List Ob} {P:Program} {x:AV}
theorem kHa(p:HOk B w g h){a:AV}{e i k:Nat}{u:Value}(n:AR (ctx w g h) (.ep a e i k) u){xs:List (List AV)}(l:eOf h a=some e)(o:zZ h a=some xs):
  ∃A b,AR (ctx w g h) a (.slice (some A) xs.length b)/\RowsAt w (ctx w g h) e xs (some A)/\i<xs.length/\u= .pointer (some (A.add (i*e+k))):=by
 obtain⟨A,m,b,c,f,j⟩:=n
 obtain⟨s,k',q,r,d,_⟩:=vG p _ c o
 injection q with e4 e5 e6
 subst e5 e6
 have:=d e l
 rw[<-e4] at this
 exact⟨A,b,c,this,f,j⟩
theorem qoa(f:HOk B w g h)(hB:B<=w.heap.size){t:TypeId}{p:AV}{u:Value}(o:AR (ctx w g h) p u)(c:Qf h (zE P t) p=some x):DidV P (Instr.loadAt t u) B w g h x h:=by
 cases p with
 | ptr id off=>
   simp only[Qf] at c
   split at c
   ·rename_i ty cs C
    split at c
    ·rename_i G
     obtain⟨v,q,m⟩:=XX (P:=P) G (Vp f C) c
     obtain⟨_,e⟩:=o
     subst e
     refine ju f hB (v:=v) ?_ m
     rw[Addr.add_lit,Nat.zero_add] at q
     simpa [Instr.loadAt,Instr.sureAddr,ctx] using q
    ·cases c
   ·cases c
 | ep a e i k=>
   simp only[Qf] at c
   split at c
   ·rename_i n
    cases j:zZ h a with
    | none=>rw[j] at c;cases c
    | some xs=>
      rw[j] at c
      simp only[Option.bind_some] at c
      cases hi:xs[i]? with
      | none=>rw[hi] at c;cases c
      | some r=>
        rw[hi] at c
        obtain⟨A,I,_,m,H,y⟩:=kHa f o n.2 j
        subst y
        have d:PartAt w (ctx w g h) (A.add (i*e)) r:=λk b D=>by
         obtain⟨J,u,l,z,F⟩:=m.cell i k r b hi D
         injection l with l
         subst l
         exact⟨u,by rw[Addr.add_add];exact z,F⟩
        obtain⟨v,s,E⟩:=XX (P:=P) n.1 d c
        refine ju f hB (v:=v) ?_ E
        rw[Addr.add_add] at s
        simpa [Instr.loadAt,Instr.sureAddr] using s
   ·cases c
 | _=>cases c
theorem JC{rest:List AV}:∀ {r:List AV} {k:Nat} {ns c:List AV},lay r k ns=some c->lay (r++rest) k ns=some (c++rest)
 | r,0,[],c,h=>by
   have e:∀l:List AV,lay l 0 []=some l:=λl=>by cases l<;>rfl
   rw[e] at h;cases h;exact e _
 | [],k+1,_,_,h=>by cases h
 | [],0,_::_,_,h=>by cases h
 | a::r,0,n::ns,c,h=>by
   simp only[lay] at h
   cases b:lay r 0 ns with
   | none=>rw[b] at h;cases h
   | some q=>
     rw[b] at h;injection h with h;subst h
     simp[lay,JC b]
 | a::r,k+1,ns,c,h=>by
   simp only[lay] at h
   cases b:lay r k ns with
   | none=>rw[b] at h;cases h
   | some q=>
     rw[b] at h;injection h with h;subst h
     simp[lay,JC b]
theorem qpa{rest b:List AV}{m:Nat}{ns:List AV}(h:lay rest m ns=some b):∀(x:List AV),lay (x++rest) (x.length+m) ns=some (x++b)
 | []=>by simpa using h
 | a::x=>by
   rw[List.length_cons,show x.length+1+m=(x.length+m)+1 by omega]
   simp[lay,qpa h x]
theorem Kw{e:Nat}:∀ {xs:List (List AV)},(∀x∈xs,x.length=e)->∀ {i k:Nat} {r ns a:List AV},xs[i]? =some r->lay r k ns=some a->lay xs.flatten (i*e+k) ns=some (xs.set i a).flatten
 | x::xs,h,0,k,r,ns,a,hi,b=>by
   injection hi with hi
   subst hi
   simpa using JC (rest:=xs.flatten) b
 | x::xs,h,i+1,k,r,ns,a,hi,b=>by
   have d:=h x (by simp)
   have:=qpa (Kw (xs:=xs) (λy c=>h y (by simp[c])) (i:=i) hi b) x
   rw[d] at this
   rw[show(i+1)*e+k=e+(i*e+k) by rw[Nat.succ_mul];omega]
   simpa using this
theorem kIa(u:HOk B w g h)(hB:B<=w.heap.size){id ty e st:Nat}{xs xs':List (List AV)}(s:h[id]? =some (.row ty e xs st)){A:Addr}{E I:Nat}(d:g.cur id= .slice (some A) E I){o:Nat}{vs:List Value}{ns:List AV}
  (q:ARs (ctx w g h) ns vs) (U:∀v∈vs,v.oneCell'=true) (f:lay xs.flatten o ns=some xs'.flatten) (p:∀x∈xs',x.length=e) (a:xs'.length=xs.length):
  ∃w' g',(storeCells (A.add o) vs).run P w= .ok () w'/\Good B w g h w' g' (h.set id (.row ty e xs' st)):=by
 obtain⟨W,V,cells,r,F⟩:=u.ok id _ s
 obtain⟨G,C⟩:=Xe F _ q f
 rcases r.2 with⟨n,_⟩|⟨i,cap,cur,n,N,y,t,O,R,H⟩
 ·have c:g.cur id=_:=n
  rw[c] at d;cases d
 ·have c:g.cur id=_:=n
  have l:A=⟨i,0,none⟩:=by
   rw[c] at d
   injection d with d
   injection d with d
   exact d.symm
  subst l
  have J:cells.length=xs.length*e:=r.1
  have M:xs.length*e<=cur.size:=by rw[R];exact Nat.mul_le_mul_right _ t
  have Q:o+vs.length<=xs.length*e:=by rw[J] at C;exact C
  have j:=run_storeCells_at P i o ty vs 0 cur w y (by simp only[Nat.add_zero];omega) U
  simp only[Nat.add_zero] at j
  rw[Addr.add_lit,Nat.zero_add]
  refine⟨_,_,j,Xf (v':=g.cur id) (st':=st) (cells:=cells.take o++vs++cells.drop (o+vs.length)) u hB s p ?_ ?_ G (.inl ⟨rfl,rfl⟩) (λb S=> .inl S)⟩
  ·rw[c]
   exact Qn w i _
  ·rw[c]
   refine⟨?_,.inr ⟨i,cap,_,by rw[a],N,setRow_heap w i cur _ ty _ y,by rw[a];exact t,O,?_,?_⟩⟩
   ·simp only[ze,zX,List.length_drop]
    rw[a]
    omega
   ·simp only[List.size_toArray,ze,zX,List.length_drop,qP]
    omega
   ·rw[a, <-H]
    apply qD
    intro m
    simp only[qO,List.getElem?_append,zX,ze,List.getElem?_drop,qP]
    have T:min (xs.length*e) cur.size=xs.length*e:=by omega
    simp only[T]
    have L:min o (xs.length*e)=o:=by omega
    have k:min o cur.size=o:=by omega
    simp only[L,k]
    by_cases D:m<o
    ·simp[D,show m<o+vs.length by omega,show m<xs.length*e by omega]
    ·by_cases z:m<o+vs.length
     ·simp[D,z,show m<xs.length*e by omega]
     ·have K:o+vs.length+(m - (o+vs.length))=m:=by omega
      simp[z,K]
theorem vAa(C:HOk B w g h)(hB:B<=w.heap.size){t:TypeId}{p y:AV}{u v:Value}{ns:List AV}(Q:AR (ctx w g h) p u)(hy:AR (ctx w g h) y v)(ht:(zE P t).ok=true)(Z:y.cells=some ns)(N:ns.length=(zE P t).sz)
  (b:yA h ns p=some h'):∃w' g',(Instr.storeAt t u v).run P w= .ok () w'/\Good B w g h w' g' h':=by
 obtain⟨d,i,hu,hi,eq⟩:=jj ht
 obtain⟨m,E⟩:=Vo Z hy
 have f:v.cells.size=i.size:=by
  have:=kR m
  rw[eq] at N
  simp at this N
  omega
 have z:∀(q off:Nat) (ty:TypeId) (cur:Array Value),w.heap[q]? =some (.cells cur ty (0,0))->off+v.cells.toList.length<=cur.size->
   (Instr.storeAt t (.pointer (some ⟨q,off,none⟩)) v).run P w= .ok () (w.setRow q (cur.toList.take off++v.cells.toList++cur.toList.drop (off+v.cells.toList.length)).toArray):=λq off ty cur V Y=>by
  have:=run_storeCells_at P q off ty v.cells.toList 0 cur w V (by simpa using Y) E
  simp only[Nat.add_zero] at this
  simp[Instr.storeAt,Instr.sureAddr,storeVar,sizeOf,typeInfo,hi,f]
  simpa [f] using this
 cases p with
 | ptr id off=>
   simp only[yA] at b
   split at b
   ·rename_i ty cs l
    cases c:lay cs off ns with
    | none=>rw[c] at b;cases b
    | some cs'=>
      rw[c] at b
      injection b with b
      subst b
      obtain⟨R,vs,O,M⟩:=C.ok id _ l
      obtain⟨I,h5⟩:=Xe M off m c
      obtain⟨_,e⟩:=Q
      subst e
      exact⟨_,_,z _ off ty vs O (by simpa using h5),Vq C hB l (by simpa using I)⟩
   ·cases b
 | ep a e j k=>
   cases a<;>try (cases b;done)
   rename_i id st
   simp only[yA] at b
   split at b
   ·rename_i ty L xs s l
    split at b
    ·rename_i S
     obtain⟨H,G⟩:=S
     subst H G
     cases F:xs[j]? with
     | none=>rw[F] at b;cases b
     | some r=>
       rw[F] at b
       simp only[Option.bind_some] at b
       cases c:lay r k ns with
       | none=>rw[c] at b;cases b
       | some r'=>
         rw[c] at b
         injection b with b
         subst b
         have T:eOf h (.tl id s)=some L:=by simp[eOf,l]
         have W:zZ h (.tl id s)=some xs:=by simp[zZ,l]
         obtain⟨A,cp,R,O,M,I⟩:=kHa C Q T W
         subst I
         have D:=Jz R l
         obtain⟨q0,K,cells,q2,q3⟩:=C.ok id _ l
         have J:=Kw K F c
         have n:∀x∈xs.set j r',x.length=L:=λx b=>by
          rcases List.mem_or_eq_of_mem_set b with b|b
          ·exact K x b
          ·subst b;rw[K7 c];exact K r (qn F)
         obtain⟨w',g',U,X⟩:=kIa (P:=P) C hB l D.symm (o:=j*L+k) m E J n (by simp)
         refine⟨w',g',?_,X⟩
         simp[Instr.storeAt,Instr.sureAddr,storeVar,sizeOf,typeInfo,hi,f]
         simpa [f] using U
    ·cases b
   ·cases b
 | _=>cases b
end
section
variable {B:Nat} {w:World} {g:Gh} {h h':List Ob} {P:Program} {x:AV} {T:Nat->AV} {a:Act}
theorem Qh{t ty e:TypeId}{i:TypeInfo}(a:P.underlying t=some (.slice e))(hi:P.info? e=some i)(base:Option Addr)(n cap k:Nat)(b:n<=cap):
  (Builtin.append_ #[t,t] ty #[.slice base n cap,.slice none 0 k]).run P w= .ok (.slice base n cap) w:=by
 cases base<;>simp[Builtin.append_,run_underlying a,sizeOf,typeInfo,hi,Builtin.lenOf,b,Builtin.firstCells,storeCells]
theorem Yr{c:Ctx}{e:Nat}{xs:List (List AV)}{A:Addr}(f:RowsAt w c e xs (some A))(B:∀r∈xs,r.all AV.one=true):
  ∃news:List Value,news.length=xs.length*e/\(∀j u,news[j]? =some u->w.cell? (A.add j)=some u)/\(∀u∈news,u.oneCell'=true)/\ARs c xs.flatten news:=by
 have y:PartAt w c A xs.flatten:=λk a i=>by
  by_cases v:e=0
  ·have:xs.flatten=[]:=by
    apply zz
    rw[kY f.len,v,Nat.mul_zero]
   rw[this] at i;cases i
  ·have g:=(zd.1 i).1
   rw[kY f.len] at g
   have hi:k / e<xs.length:=by rw[Nat.div_lt_iff_lt_mul (by omega)];exact g
   have C:k % e<e:=Nat.mod_lt _ (by omega)
   have d:xs[k / e]? =some xs[k / e]:=zh hi
   have s:xs[k / e].length=e:=f.len _ (zw hi)
   have b:xs[k / e][k % e]? =some xs[k / e][k % e]:=zh (by omega)
   have l:=y7 f.len d b
   have h:k / e*e+k % e=k:=by rw[Nat.mul_comm];exact Nat.div_add_mod k e
   rw[h,i] at l
   injection l with l
   obtain⟨D,u,m,q,z⟩:=f.cell _ _ _ _ d b
   injection m with m
   subst m
   rw[h] at q
   exact⟨u,q,by rw[l];exact z⟩
 obtain⟨vs,n,t⟩:=y.vals
 refine⟨vs,by rw[<-kR n,kY f.len],t,?_,n⟩
 refine XW ?_ n
 rw[zL]
 intro a x
 obtain⟨r,p,o⟩:=List.mem_flatten.1 x
 exact zL.1 (B r p) a o
theorem zAa{a:Nat}{e:TypeId}{size:Nat}{v:Value}{k:Nat}{xs:List Value}(h:w.ownsRow B e size v k xs)(f:a<=B):w.ownsRow a e size v k xs:=by
 refine⟨h.1,?_⟩
 rcases h.2 with d|⟨g,cap,cur,c,b,r⟩
 ·exact .inl d
 ·exact .inr ⟨g,cap,cur,c,Nat.le_trans f b,r⟩
theorem xda{t ty e:TypeId}{i:TypeInfo}{z:Value}(r:P.underlying t=some (.slice e))(hi:P.info? e=some i)(B:i.zero=some z)(C:0<i.size)
  {D:Nat} {v:Value} {n:Nat} {xs:List Value} (h:w.ownsRow D e i.size v n xs) {l:Addr} {m c:Nat} {news:List Value} (p:news.length=m*i.size) (a:∀j u,news[j]? =some u->w.cell? (l.add j)=some u) (J:∀u∈news,u.oneCell'=true)
  (y:n+m<=maxLen) (d:(n+m)*i.bytes<=140737488355328) {v':Value} {w':World} (k:(Builtin.append_ #[t,t] ty #[v,.slice (some l) m c]).run P w= .ok v' w') (b:Nat) (q:v'.ownBlock=some b):
  v.ownBlock=some b∨w.heap.size<=b:=by
 have s:n+m<=9223372036854775807:=by simp only[maxLen] at y;omega
 rcases h.2 with⟨rfl,rfl⟩|⟨g,cap,cur,rfl,G,F,H,I,x,A⟩
 ·by_cases E:m=0
  ·subst E
   have:(Builtin.append_ #[t,t] ty #[.slice none 0 0,.slice (some l) 0 c]).run P w= .ok (.slice none 0 0) w:=by
    simp[Builtin.append_,run_underlying r,sizeOf,typeInfo,hi,Builtin.lenOf,Builtin.firstCells,loadCells,loadCellsFrom]
   rw[this] at k
   injection k with e1 e2
   subst e1
   simp[Value.ownBlock] at q
  ·rw[run_append_nil (P:=P) w t ty e i z r hi B l m c news p a (by omega) (by omega) (by simp only[Nat.zero_add] at d;omega)] at k
   injection k with e1 e2
   subst e1
   simp[Value.ownBlock] at q
   exact .inr (by omega)
 ·by_cases f:n+m<=cap
  ·have o:n*i.size+news.length<=cur.size:=by rw[p,x, <-Nat.add_mul];exact Nat.mul_le_mul_right _ f
   rw[run_append_room (P:=P) w t ty e i r hi g n cap cur F l m c news p a J f o] at k
   injection k with e1 e2
   subst e1
   exact .inl q
  ·have holds:∀j u,xs[j]? =some u->w.cell? ((⟨g,0,none⟩:Addr).add j)=some u:=h.cells (g:=g) rfl
   rw[run_append_grow (P:=P) w t ty e i z r hi B ⟨g,0,none⟩ n cap xs h.1 holds l m c news p a (by omega) (by omega) (growslice_fits (by omega) d)] at k
   injection k with e1 e2
   subst e1
   simp[Value.ownBlock] at q
   exact .inr (by omega)
theorem xea(Z:HOk B w g h)(hB:B<=w.heap.size){t ty e:TypeId}{s y:AV}{u v:Value}(hs:AR (ctx w g h) s u)(hy:AR (ctx w g h) y v)(L:(zE P t).kind= .slice e)(a:ZJ P h e s y=some (x,h')):
  DidV P (Builtin.append_ #[t,t] ty #[u,v]) B w g h x h':=by
 obtain⟨d,it,X,ω,eq⟩:=jj (jl L (by simp))
 rw[eq] at L
 cases d<;>try (cases L;done)
 injection L with L
 subst L
 rename_i e
 unfold ZJ at a
 cases o:zZ h y with
 | none=>simp[o] at a
 | some ys=>
   simp only[o,Option.bind_some] at a
   split at a
   ·rename_i hc
    obtain⟨ho,h0,V,M⟩:=hc
    obtain⟨d',i,hu',hi,G⟩:=jj ho
    have ο:(zE P e).sz=i.size:=by rw[G]
    have ν:(zE P e).bytes=i.bytes:=by rw[G]
    rw[ο] at h0 M V a
    rw[ν] at a
    cases C:i.zero with
    | none=>rw[G] at V;simp[C] at V
    | some z=>
      rw[G] at V
      have U:z.cells.size=i.size:=by simpa [C] using V
      have c:∀r∈ys,r.length=i.size/\r.all AV.one=true:=λr o=>by
       have:=zL.1 M r o
       simpa only[zj,beq_iff_eq] using this
      obtain⟨A,k,e1,e2,e3,e4⟩:=vG Z _ hy o
      subst e1
      have E:(∃n,A=some n)->∃n news,A=some n/\news.length=ys.length*i.size/\(∀j u,news[j]? =some u->w.cell? (n.add j)=some u)/\(∀u∈news,u.oneCell'=true)/\ARs (ctx w g h) ys.flatten news:=by
       rintro ⟨n,rfl⟩
       cases f:ys with
       | nil=>exact⟨n,[],rfl,by simp,by simp,by simp,rfl⟩
       | cons r rs=>
         cases T:eOf h y with
         | none=>rw[e4 T] at f;cases f
         | some e'=>
           have H:=e3 e' T
           have ρ:e'=i.size:=by rw[<-H.len r (by rw[f];simp),(c r (by rw[f];simp)).1]
           subst ρ
           obtain⟨news,n1,n2,n3,n4⟩:=Yr H λr o=>(c r o).2
           rw[<-f]
           exact⟨n,news,rfl,n1,n2,n3,n4⟩
      have F:A=none->ys=[]:=λK=>by
       cases f:ys with
       | nil=>rfl
       | cons r rs=>
         cases T:eOf h y with
         | none=>rw[e4 T] at f;cases f
         | some e'=>
           have H:=e3 e' T
           have hr0:=(c r (by rw[f];simp)).1
           obtain⟨n,u,q1,_⟩:=H.cell 0 0 r (nth r 0) (by rw[f];rfl) (y6 (by omega))
           rw[K] at q1;cases q1
      split at a
      ·rename_i id st
       split at a
       ·rename_i q e' xs s p
        split at a
        ·rename_i ι
         obtain⟨c1,c2,c3,c4⟩:=ι
         subst c1 c2 c3
         injection a with a
         injection a with hx1 hx2
         subst hx1 hx2
         have m:=Jz hs p
         obtain⟨q0,q1,cells,q2,q3⟩:=Z.ok id _ p
         have D:w.ownsRow B q i.size (g.cur id) xs.length cells:=q2
         rw[<-m] at D
         have ζ:xs.length+ys.length<=140737488355328:=Nat.le_trans (Nat.le_mul_of_pos_right _ (by omega)) c4
         have I:(xs.length+ys.length)*i.bytes<=140737488355328:=Nat.le_trans (Nat.mul_le_mul_left _ (by omega)) c4
         have κ:∀x∈xs++ys,x.length=i.size:=λx a=>by
          rcases zK.1 a with a|a
          ·exact q1 x a
          ·exact(c x a).1
         have fin:∀(v':Value) (w':World) (l:List Value),w'.ownsRow B q i.size v' (xs++ys).length l->ARs (ctx w g h) (xs++ys).flatten l->w.grownBy w' (g.cur id).ownBlock->(∀b,v'.ownBlock=some b->(g.cur id).ownBlock=some b∨w.heap.size<=b)->
           Good B w g h w' ⟨g.β,λj=>if j=id then v' else g.cur j⟩ (h.set id (.row q i.size (xs++ys) (s+1)))/\AR (ctx w' ⟨g.β,λj=>if j=id then v' else g.cur j⟩ (h.set id (.row q i.size (xs++ys) (s+1)))) (.tl id (s+1)) v':=λv' w' l O S J r4=>by
          refine⟨Xf Z hB p κ J O S (.inr (by omega)) r4,?_,⟨_,zm (kX p),rfl⟩,λs' σ=>?_⟩
          ·obtain⟨A,cp,e1,_⟩:=wq O;exact⟨A,_,cp,e1⟩
          ·have:s+1=s':=by
            have:=σ
            simp only[ctx,zm (kX p),Ob.tok,Option.some.injEq] at this
            exact this
           exact⟨by omega,λ_=>by simp[ctx]⟩
         cases K:A with
         | none=>
           have Q:=F K
           subst Q
           obtain⟨A0,cp,z1,z2⟩:=wq D
           have o:=Qh (P:=P) (w:=w) (ty:=ty) X hi A0 xs.length cp k z2
           rw[<-z1] at o
           obtain⟨N,R⟩:=fin u w cells (by simpa using D) (by simpa using q3) ⟨rfl,rfl,rfl,zo _,λ_ _ _=>rfl⟩ (λb Y=> .inl (by have e:u=g.cur id:=m;rw[<-e];exact Y))
           exact⟨_,_,_,by simpa using o,N,R⟩
         | some n=>
           obtain⟨η,news,n1,n2,n3,n4,n5⟩:=E ⟨n,K⟩
           rw[K] at n1
           injection n1 with n1
           subst n1
           obtain⟨v',w',O,S,J,r4⟩:=run_append_own (P:=P) w B t ty q i z i.size i.bytes X hi C rfl rfl U h0 u xs.length cells D n ys.length k news n2 n3 n4 (by simp only[maxLen];omega) I hB
           have υ:w.grownBy w' (g.cur id).ownBlock:=by have e:u=g.cur id:=m;rw[<-e];exact J
           obtain⟨N,R⟩:=fin v' w' (cells++news) (by rw[ze];exact S) (by rw[List.flatten_append];exact jY q3 n5) υ (λb Y=>by
            rcases xda (P:=P) (w:=w) X hi C h0 D n2 n3 n4 (by simp only[maxLen];omega) I O b Y with h9|h9
            ·have e:u=g.cur id:=m
             exact .inl (by rw[<-e];exact h9)
            ·exact .inr h9)
           exact⟨_,_,_,O,N,R⟩
        ·cases a
       ·cases a
      ·split at a
       ·rename_i c4
        injection a with a
        injection a with hx1 hx2
        subst hx1 hx2
        have hs:u= .slice none 0 0:=hs
        subst hs
        have ζ:ys.length<=140737488355328:=Nat.le_trans (Nat.le_mul_of_pos_right _ (by omega)) c4
        have I:ys.length*i.bytes<=140737488355328:=Nat.le_trans (Nat.mul_le_mul_left _ (by omega)) c4
        cases K:A with
        | none=>
          have Q:=F K
          subst Q
          have o:=Qh (P:=P) (w:=w) (ty:=ty) X hi none 0 0 k (zo _)
          obtain⟨N,R⟩:=Qo Z hB (ty:=e) h0 (xs:=[]) (by simp) 0 (Below.refl _ w) (World.ownsRow_nil w B e i.size) rfl (by simp[Value.ownBlock])
          exact⟨_,_,_,by simpa using o,N,R⟩
        | some n=>
          obtain⟨η,news,n1,n2,n3,n4,n5⟩:=E ⟨n,K⟩
          rw[K] at n1
          injection n1 with n1
          subst n1
          obtain⟨v',w',O,S,J,r4⟩:=run_append_own (P:=P) w w.heap.size t ty e i z i.size i.bytes X hi C rfl rfl U h0 (.slice none 0 0) 0 [] (World.ownsRow_nil w _ e i.size) n ys.length k news n2 n3 n4 (by simp only[maxLen];omega) (by simpa using I) (zo _)
          have W:Below w.heap.size w w':=⟨J.os,J.tape,J.output,J.size,λk L=>J.block k L (by simp[Value.ownBlock])⟩
          obtain⟨N,R⟩:=Qo Z hB (ty:=e) h0 (λx a=>(c x a).1) 0 W (zAa (by simpa using S) hB) n5 (λb Y=>(World.ownsRow.lt S b Y).1)
          exact⟨_,_,_,O,N,R⟩
       ·cases a
      ·cases a
   ·cases a
end
