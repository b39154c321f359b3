import Derived.Test.YtigdlmpjijhpaaaGreatBA
import Derived.Test.YtigdlmpjijhpaaaGreatB00
import Derived.Laws.CopyRow
import Derived.Great.BuildSlice
import Derived.Laws.OwnMore
set_option linter.all false
namespace Go.Proofs.YtigdlmpjijhpaaaGreat.Ax
open Go Go.RowKit
def xia:Nat->List AV
 | 0=>[]
 | n+1=> .bad::xia n
def Jb(e:Nat):Nat->List AV->List (List AV)
 | 0,_=>[]
 | n+1,l=>l.take e::Jb e n (l.drop e)
def yA(place:Nat->Option (Nat × Nat))(aZ:List AV):List (Nat × AV)->Option (List AV)
 | []=>some aZ
 | (i,a)::r=>match place i,a.cells with
   | some (off,size),some cs=>if cs.length=size then(lay aZ off cs).bind λb=>yA place b r else none
   | _,_=>none
def XL(P:Program)(a:List (Nat × TypeId))(i:Nat):Option (Nat × Nat):=a[i]?.map λf=>(f.1,(zO P f.2).sz)
def Zq(sz:Nat)(i:Nat):Option (Nat × Nat):=some (i*sz,sz)
def evs(T:Nat->AV):List (Nat × Operand)->List (Nat × AV)
 | []=>[]
 | (i,x)::r=>(i,ev T x)::evs T r
def evl(T:Nat->AV):List Operand->List AV
 | []=>[]
 | x::r=>ev T x::evl T r
def kH:List AV->List AV->Option Bool
 | [],[]=>some true
 | .v (.int k a)::r,.v (.int k' b)::s=>if k=k' then(kH r s).map λt=>a==b && t else none
 | _,_=>none
def w9(P:Program):Nat->List (Nat × TypeId)->Bool
 | _,[]=>true
 | o,f::r=>f.1==o && (match (zO P f.2).kind with | .int _=>true|_=>false) && w9 P (o+1) r
def Kza(P:Program)(e:TypeId):Bool:=(match (zO P e).kind with | .int _=>true|_=>false) && (zO P e).sz==1
def xu(P:Program)(t:TypeId):Bool:= !P.eqGuardType P.depth t && !P.stoodInHeld t && (P.fieldsOf t).toList.all λf=>f.name != "_"
def yaa:BinOp->Bool
 | .shl | .shr=>true
 | _=>false
def vpa(op:BinOp)(k:IntKind)(a b:Int):Option AV:=match op with
 | .shr=>some (.v (.int k (a.fdiv (2 ^ min b.toNat k.bits))))
 | .shl=>some (.v (.int k (k.wrap (a*2 ^ min b.toNat k.bits))))
 | _=>none
def vqa(op:BinOp)(k:IntKind)(a b:Int):Option AV:=match op with
 | .add=>some (.v (.int k (k.wrap (a+b))))
 | .sub=>some (.v (.int k (k.wrap (a - b))))
 | .mul=>some (.v (.int k (k.wrap (a*b))))
 | .or=>some (.v (.int k (k.wrap ((BitVec.ofInt k.bits a ||| BitVec.ofInt k.bits b).toNat:Int))))
 | .quo=>if b=0 then none else some (.v (.int k (k.wrap (a.tdiv b))))
 | .rem=>if b=0 then none else some (.v (.int k (a.tmod b)))
 | .eql=>some (.v (.bool (a==b)))
 | .neq=>some (.v (.bool (a != b)))
 | .lss=>some (.v (.bool (decide (a<b))))
 | .leq=>some (.v (.bool (decide (a<=b))))
 | .gtr=>some (.v (.bool (decide (a>b))))
 | .geq=>some (.v (.bool (decide (a≥b))))
 | _=>none
def QUa(P:Program)(op:BinOp)(t:TypeId):AV->AV->Option AV
 | .v (.int k a),.v (.int k' b)=>if yaa op then(if 0<=b then vpa op k a b else none) else if k=k' then vqa op k a b else none
 | .v (.bool a),.v (.bool b)=>match (zO P t).kind,op with
   | .bool,.eql=>some (.v (.bool (a==b)))
   | .bool,.neq=>some (.v (.bool (!(a==b))))
   | _,_=>none
 | .ag xs,.ag ys=>match (zO P t).kind,op with
   | .struct c,.eql=>if xu P t && w9 P 0 c && xs.length==c.length then(kH xs ys).map λb=> .v (.bool b) else none
   | .struct c,.neq=>if xu P t && w9 P 0 c && xs.length==c.length then(kH xs ys).map λb=> .v (.bool (!b)) else none
   | .arr n e,.eql=>if xu P t && Kza P e && xs.length==n then(kH xs ys).map λb=> .v (.bool b) else none
   | _,_=>none
 | .v (.pointer none),.v (.pointer none)=>match (zO P t).kind,op with
   | .ptr _,.eql=>some (.v (.bool true))
   | .ptr _,.neq=>some (.v (.bool false))
   | _,_=>none
 | .ptr _ _,.v (.pointer none)=>match (zO P t).kind,op with
   | .ptr _,.eql=>some (.v (.bool false))
   | .ptr _,.neq=>some (.v (.bool true))
   | _,_=>none
 | .v (.string a),.v (.string b)=>match op with
   | .eql=>some (.v (.bool (a.toList==b.toList)))
   | .neq=>some (.v (.bool (!(a.toList==b.toList))))
   | _=>none
 | _,_=>none
def xja:List (List AV)->Option (List UInt8)
 | []=>some []
 | [.v (.int .u8 n)]::r=>(xja r).map (UInt8.ofNat n.toNat:: ·)
 | _=>none
def KAa(P:Program)(s:TypeId)(rows:List (List AV)):Option AV:=match (zO P s).kind with
 | .slice e=>match (zO P e).kind with
   | .int .u8=>(xja rows).map λl=> .v (.string ⟨l.toArray⟩)
   | _=>none
 | _=>none
def xka:AV->List AV->Option AV
 | a,[]=>some a
 | .v (.int k x),.v (.int _ y)::r=>xka (.v (.int k (if y>x then y else x))) r
 | _,_=>none
def xla:AV->List AV->Option AV
 | a,[]=>some a
 | .v (.int k x),.v (.int _ y)::r=>xla (.v (.int k (if y<x then y else x))) r
 | _,_=>none
def Jc(h:List Ob)(τ:Ty):AV->Option AV
 | .ptr id off=>match h[id]? with
   | some (.box _ cs)=>if τ.ok then part cs off τ.agg τ.sz else none
   | _=>none
 | .ep a e i k=>if τ.ok/\eOf h a=some e then(z6 h a).bind λxs=>xs[i]?.bind λr=>part r k τ.agg τ.sz else none
 | _=>none
def Zr(h:List Ob)(ns:List AV):AV->Option (List Ob)
 | .ptr id off=>match h[id]? with
   | some (.box ty cs)=>(lay cs off ns).map λcs'=>h.set id (.box ty cs')
   | _=>none
 | .ep (.tl id st) e i k=>match h[id]? with
   | some (.row ty b xs s)=>if s=st/\b=e then xs[i]?.bind λr=>(lay r k ns).map λa=>h.set id (.row ty e (xs.set i a) st) else none
   | _=>none
 | _=>none
def vra(h:List Ob)(n:Int)(a:AV):Option AV:=
 (z6 h a).bind λxs=>(eOf h a).bind λe=>if 0<=n/\n<xs.length then some (.ep a e n.toNat 0) else none
def QA(P:Program)(h:List Ob)(e:TypeId)(s x:AV):Option (AV × List Ob):=
 let τ:=zO P e
 (z6 h x).bind λys=>
  if τ.ok/\0<τ.sz/\(τ.zero.map List.length)=some τ.sz/\ys.all (λr=>r.length==τ.sz && r.all AV.one) then
   match s with
   | .tl id st=>match h[id]? with
     | some (.row ty a xs s)=>if s=st/\ty=e/\a=τ.sz/\(xs.length+ys.length)*(τ.bytes+1)<=140737488355328 then some (.tl id (st+1),h.set id (.row ty a (xs++ys) (st+1))) else none
     | _=>none
   | .v (.slice none 0 0)=>if ys.length*(τ.bytes+1)<=140737488355328 then some (.tl h.length 0,h++[.row e τ.sz ys 0]) else none
   | _=>none
  else none
def Yfa:AV->Bool
 | .em=>true
 | _=>false
def vu:AV->Bool
 | .v (.slice none _ _)=>true
 | _=>false
def jqa:Option (List (List AV))->Option Nat->Bool
 | some (_::_),some e=>decide (0<e)
 | _,_=>false
def XM(h:List Ob)(a:AV):Bool:=Yfa a || jqa (z6 h a) (eOf h a)
def Yb(op:BinOp)(b:Bool):Option AV:=match op with
 | .eql=>some (.v (.bool b))
 | .neq=>some (.v (.bool (!b)))
 | _=>none
def xma(P:Program)(h:List Ob)(op:BinOp)(t:TypeId)(a:AV):Option AV:=match (zO P t).kind with
 | .slice _=>if vu a then Yb op true else if XM h a then Yb op false else none
 | _=>none
def J7:Operand->Bool
 | .const (.slice none _ _)=>true
 | _=>false
def kX(h:List Ob):AV->Option (Nat × Nat × Nat × Nat)
 | .tl id st=>match h[id]? with
   | some (.row _ _ xs s)=>if s=st then some (id,st,0,xs.length) else none
   | _=>none
 | .vw (.tl id st) e i n=>match h[id]? with
   | some (.row _ a xs s)=>if s=st/\a=e/\i+n<=xs.length then some (id,st,i,n) else none
   | _=>none
 | _=>none
def kI(xs:List (List AV))(i:Nat)(ys:List (List AV)):List (List AV):=xs.take i++ys++xs.drop (i+ys.length)
def vC(h:List Ob)(id i:Nat)(ty e:Nat)(ys:List (List AV)):Option (List Ob):=match h[id]? with
 | some (.row a b xs st)=>if a=ty/\b=e/\ys.all (λr=>r.length==e && r.all AV.one) then some (h.set id (.row a b (kI xs i ys) st)) else none
 | _=>none
def Qc(P:Program)(T:Nat->AV)(h:List Ob)(c:Call):Option (AV × List Ob):=
 match c.callee,c.args.toList,c.argTypes.toList with
 | .builtin .len,[x],[t]=>match (zO P t).kind with
   | .slice _=>(z6 h (ev T x)).map λxs=>(.v (.int .i64 xs.length),h)
   | _=>none
 | .builtin .append,[s,x],[t,a]=>match (zO P t).kind with
   | .slice e=>if a=t then QA P h e (ev T s) (ev T x) else none
   | _=>none
 | .builtin .clear,[x],[t]=>match (zO P t).kind with
   | .slice e=>(kX h (ev T x)).bind λ(id,_,i,n)=>(zO P e).zero.bind λz=>
     if(zO P e).ok/\z.length=(zO P e).sz then(vC h id i e (zO P e).sz (List.replicate n (z.map .v))).map λh'=>(.tup [],h') else none
   | _=>none
 | .builtin .copy,[d,x],[t,a]=>match (zO P t).kind with
   | .slice e=>if a=t/\(zO P e).ok/\0<(zO P e).sz then(kX h (ev T d)).bind λ(id,_,i,n)=>(z6 h (ev T x)).bind λys=>
     (vC h id i e (zO P e).sz (ys.take n)).map λh'=>(.v (.int .i64 ((ys.take n).length:Nat)),h') else none
   | _=>none
 | .builtin .max,x::r,_=>(xka (ev T x) (evl T r)).map (·,h)
 | .builtin .min,x::r,_=>(xla (ev T x) (evl T r)).map (·,h)
 | _,_,_=>none
def yba(τ:Ty):Option AV:=if τ.one then τ.zero.bind λz=>z.head?.map .v else none
def jA(P:Program)(T:Nat->AV):Op->Option (Ob × (Nat->AV))
 | .alloc t=>if(zO P t).ok then(zO P t).zero.map λz=>(.box t (z.map .v),λi=> .ptr i 0) else none
 | .box t x=>(ev T x).cells.map λcs=>(.box t cs,λi=> .ptr i 0)
 | .buildSlice t n a=>match (zO P t).kind with
   | .slice e=>if(zO P e).ok/\0<(zO P e).sz/\n*(zO P e).sz<=16777216/\(zO P e).zero.isSome then
     (yA (Zq (zO P e).sz) (xia (n*(zO P e).sz)) (evs T a.toList)).map λcs=>(.row e (zO P e).sz (Jb (zO P e).sz n cs) 0,λi=> .tl i 0) else none
   | _=>none
 | .makeSlice t l c=>match (zO P t).kind,ev T l,ev T c with
   | .slice e,.v (.int _ n),.v (.int _ m)=>if n=m/\0<=n/\n*((zO P e).bytes+1)<=140737488355328/\(zO P e).ok/\0<(zO P e).sz/\((zO P e).zero.map List.length)=some (zO P e).sz then
     (zO P e).zero.map λz=>(.row e (zO P e).sz (List.replicate n.toNat (z.map .v)) 0,λi=> .tl i 0) else none
   | _,_,_=>none
 | .makeMap t none=>match (zO P t).kind with
   | .mapk _ _=>some (.mapo [],λi=> .mp i)
   | _=>none
 | _=>none
def kY:AV × AV->Int
 | (.v (.int _ m),_)=>m
 | _=>0
def vv(kk:IntKind):List (AV × AV)->Bool
 | []=>true
 | (.v (.int k _),_)::r=>k==kk && vv kk r
 | _=>false
def j5(kk:IntKind)(n:Int)(v:AV):List (AV × AV)->List (AV × AV)
 | []=>[(.v (.int kk n),v)]
 | p::r=>if n<kY p then(.v (.int kk n),v)::p::r else p::j5 kk n v r
def kL(n:Int):List (AV × AV)->Bool
 | []=>false
 | p::r=>kY p==n || kL n r
def xv(kk:IntKind)(n:Int)(v:AV):List (AV × AV)->List (AV × AV)
 | []=>[]
 | p::r=>(if kY p=n then(.v (.int kk n),v) else p)::xv kk n v r
def Jh(kk:IntKind)(n:Int)(v:AV)(es:List (AV × AV)):Option (List (AV × AV)):=
 if vv kk es then some (if kL n es then xv kk n v es else j5 kk n v es) else none
def Jd(n:Int)(z:AV):List (AV × AV)->AV × Bool
 | []=>(z,false)
 | p::r=>(if kY p=n then p.2 else(Jd n z r).1,kY p==n || (Jd n z r).2)
def xna(kk:IntKind)(n:Int)(z:AV)(es:List (AV × AV)):Option (AV × Bool):=if vv kk es then some (Jd n z es) else none
def ZU(T:Nat->AV)(d:Int):Option Operand->Option Int
 | none=>some d
 | some x=>match ev T x with
   | .v (.int _ n)=>some n
   | _=>none
def qc(P:Program)(T:Nat->AV)(h:List Ob):Op->Option (AV × List Ob)
 | .move x=>some (ev T x,h)
 | .assign x=>some (ev T x,h)
 | .pick c a b=>match ev T c with
   | .v (.bool t)=>some (if t then ev T a else ev T b,h)
   | _=>none
 | .alloc t=>(jA P T (.alloc t)).map λq=>(q.2 h.length,h++[q.1])
 | .box t x=>(jA P T (.box t x)).map λq=>(q.2 h.length,h++[q.1])
 | .buildSlice t n j=>(jA P T (.buildSlice t n j)).map λq=>(q.2 h.length,h++[q.1])
 | .makeSlice t l c=>(jA P T (.makeSlice t l c)).map λq=>(q.2 h.length,h++[q.1])
 | .makeMap t r=>(jA P T (.makeMap t r)).map λq=>(q.2 h.length,h++[q.1])
 | .build t j=>match (zO P t).kind with
   | .struct g=>if g.all (λf=>(zO P f.2).ok) then(zO P t).zero.bind λz=>(yA (XL P g) (z.map .v) (evs T j.toList)).map λcs=>(.ag cs,h) else none
   | .arr _ e=>if(zO P e).ok then(zO P t).zero.bind λz=>(yA (Zq (zO P e).sz) (z.map .v) (evs T j.toList)).map λcs=>(.ag cs,h) else none
   | _=>none
 | .load t a=>(Jc h (zO P t) (ev T a)).map (·,h)
 | .store t a x=>if(zO P t).ok then(ev T x).cells.bind λns=>if ns.length=(zO P t).sz then(Zr h ns (ev T a)).map λh'=>(.v undef,h') else none else none
 | .nilCheck x=>match ev T x with
   | .ptr id off=>some (.ptr id off,h)
   | .ep a e i k=>some (.ep a e i k,h)
   | .fn (.func f) a b=>some (.fn (.func f) a b,h)
   | _=>none
 | .binOp op t x y _=>(if J7 y then xma P h op t (ev T x) else QUa P op t (ev T x) (ev T y)).map (·,h)
 | .unOp op _ x=>match op,ev T x with
   | .neg,.v (.int k n)=>some (.v (.int k (k.wrap (0 - n))),h)
   | .not,.v (.bool b)=>some (.v (.bool (!b)),h)
   | _,_=>none
 | .convert s d x=>match (zO P s).ok,(zO P d).kind,ev T x with
   | true,.int k,.v (.int _ n)=>some (.v (.int k (k.wrap n)),h)
   | true,.str,.sl 1 rows=>(KAa P s rows).map (·,h)
   | _,_,_=>none
 | .makeFunc f a b=>some (.fn f (evl T a.toList) (evl T b.toList),h)
 | .fieldAddr t x i=>match (zO P t).kind with
   | .struct g=>g[i]?.bind λf=>if(zO P f.2).ok/\0<(zO P f.2).sz then(match ev T x with
     | .ptr id off=>some (.ptr id (off+f.1),h)
     | .ep a e i k=>some (.ep a e i (k+f.1),h)
     | _=>none) else none
   | _=>none
 | .field t x i=>match (zO P t).kind,ev T x with
   | .struct g,.ag cs=>g[i]?.bind λf=>if(zO P f.2).ok then(part cs f.1 (zO P f.2).agg (zO P f.2).sz).map (·,h) else none
   | _,_=>none
 | .indexAddr t x i=>match (zO P t).kind,ev T i with
   | .slice e,.v (.int _ n)=>if(zO P e).ok/\0<(zO P e).sz/\eOf h (ev T x)=some (zO P e).sz then(vra h n (ev T x)).map (·,h) else none
   | .arr m e,.v (.int _ n)=>if(zO P e).ok/\0<=n/\n<m then(match ev T x with
     | .ptr id off=>some (.ptr id (off+n.toNat*(zO P e).sz),h)
     | .ep a u i k=>some (.ep a u i (k+n.toNat*(zO P e).sz),h)
     | _=>none) else none
   | _,_=>none
 | .index t x i=>match (zO P t).kind,ev T x,ev T i with
   | .arr m e,.ag cs,.v (.int _ n)=>if(zO P e).ok/\0<=n/\n<m then(part cs (n.toNat*(zO P e).sz) (zO P e).agg (zO P e).sz).map (·,h) else none
   | _,_,_=>none
 | .slice t x lo hi none=>match (zO P t).kind with
   | .slice e=>(z6 h (ev T x)).bind λxs=>(ZU T 0 lo).bind λl=>(ZU T xs.length hi).bind λm=>
     if(zO P e).ok/\0<=l/\l<=m/\m<=xs.length/\(l=m∨(0<(zO P e).sz/\eOf h (ev T x)=some (zO P e).sz)) then some (.vw (ev T x) (zO P e).sz l.toNat (m.toNat - l.toNat),h) else none
   | _=>none
 | .insert t m k v=>match (zO P t).kind,ev T m,ev T k with
   | .mapk o _,.mp id,.v (.int kk n)=>match (zO P o).kind,h[id]? with
     | .int kk',some (.mapo es)=>if kk'=kk then(Jh kk n (ev T v) es).map λes'=>(.v undef,h.set id (.mapo es')) else none
     | _,_=>none
   | _,_,_=>none
 | .lookup t m k ok=>match (zO P t).kind,ev T m,ev T k with
   | .mapk o w,.mp id,.v (.int kk n)=>match (zO P o).kind,h[id]?,yba (zO P w) with
     | .int kk',some (.mapo es),some z=>if kk'=kk then(xna kk n z es).map λp=>(if ok then .tup [p.1,.v (.bool p.2)] else p.1,h) else none
     | _,_,_=>none
   | _,_,_=>none
 | .extract x i=>match ev T x with
   | .tup cs=>if i<cs.length then some (nth cs i,h) else none
   | _=>none
 | .call c=>Qc P T h c
 | _=>none
section
variable {c:Ctx}
theorem xoa:∀(vs:List Value),ARs c (xia vs.length) vs
 | []=>rfl
 | v::r=>⟨v,r,rfl,trivial,xoa r⟩
theorem xpa(off:Nat):∀(us:List Value) (k:Nat) (cells:Array Value),off+k+us.length<=cells.size->
  ((us.zipIdx k).foldl (λcs (p:Value × Nat)=>cs.setIfInBounds (off+p.2) p.1) cells).toList=cells.toList.take (off+k)++us++cells.toList.drop (off+k+us.length)
 | [],k,cells,_=>by simp
 | u::us,k,cells,h=>by
   have h:off+k+(us.length+1)<=cells.size:=by simpa using h
   rw[List.zipIdx_cons,List.foldl_cons,xpa off us (k+1) _ (by simp;omega)]
   apply qP
   intro j
   simp only[Array.toList_setIfInBounds,List.getElem?_append,qa,zz,qH,ze,List.length_cons]
   by_cases a:j<off+k
   ·simp[a,show j<off+(k+1) by omega,show min (off+(k+1)) cells.size=off+(k+1) by omega,show min (off+k) cells.size=off+k by omega,show j<off+(k+1)+us.length by omega,show j<off+k+(us.length+1) by omega,show off+k≠j by omega]
   ·by_cases c:j=off+k
    ·subst c
     simp[show min (off+(k+1)) cells.size=off+(k+1) by omega,show min (off+k) cells.size=off+k by omega,show off+k<off+(k+1) by omega,show off+k<off+(k+1)+us.length by omega,show off+k<cells.size by omega]
    ·by_cases b:j<off+k+(us.length+1)
     ·simp[a,b,show ¬ j<off+(k+1) by omega,show min (off+(k+1)) cells.size=off+(k+1) by omega,show min (off+k) cells.size=off+k by omega,show j<off+(k+1)+us.length by omega,show j - (off+k)=(j - (off+(k+1)))+1 by omega]
     ·simp[a,b,show ¬ j<off+(k+1)+us.length by omega,show min (off+(k+1)) cells.size=off+(k+1) by omega,show min (off+k) cells.size=off+k by omega]
      rw[zc (by omega)]
      rw[show off+(k+1)+us.length+(j - (off+(k+1)+us.length))=j by omega,show off+k+(us.length+1)+(j - (off+k+(us.length+1)))=j by omega]
      simp
def Yga(c:Ctx):List (Nat × AV)->List (Nat × Value)->Prop
 | [],b=>b=[]
 | (i,a)::r,b=>∃v q,b=(i,v)::q/\AR c a v/\Yga c r q
theorem Kt(place:Nat->Option (Nat × Nat)):∀(o:List (Nat × AV)) (d:List (Nat × Value)) (aZ rs:List AV) (cells:Array Value),Yga c o d->ARs c aZ cells.toList->yA place aZ o=some rs->
  ∃b,Instr.fill place cells d=some b/\ARs c rs b.toList
 | [],d,aZ,rs,cells,l,m,h=>by
   have l:d=[]:=l
   subst l
   injection h with h
   subst h
   exact⟨cells,rfl,m⟩
 | (i,a)::r,d,aZ,rs,cells,⟨v,q,A,B,z⟩,m,h=>by
   subst A
   simp only[yA] at h
   split at h
   ·rename_i off size cs e k
    split at h
    ·rename_i p
     cases n:lay aZ off cs with
     | none=>rw[n] at h;cases h
     | some f=>
       rw[n] at h
       obtain⟨s,E⟩:=W7 k B
       have g:v.cells.size=size:=by
        have:=vB s
        simp at this
        omega
       obtain⟨t,u⟩:=Ks m off s n
       have D:off+v.cells.size<=cells.size:=by simpa using u
       have y:=xpa off v.cells.toList 0 cells (by simpa using D)
       have j:(v.cells.zipIdx.foldl (λcs (x:Value × Nat)=>cs.setIfInBounds (off+x.2) x.1) cells).toList=cells.toList.take off++v.cells.toList++cells.toList.drop (off+v.cells.toList.length):=by
        rw[<-Array.foldl_toList,Array.toList_zipIdx]
        simpa using y
       obtain⟨b,w,C⟩:=Kt place r q f rs (v.cells.zipIdx.foldl (λcs (x:Value × Nat)=>cs.setIfInBounds (off+x.2) x.1) cells) z (by rw[j];exact t) h
       refine⟨b,?_,C⟩
       simp only[Instr.fill,e,g]
       rw[if_neg (by simp;omega)]
       exact w
    ·cases h
   ·cases h
theorem XA(e:Nat):∀(n:Nat) (l:List AV),l.length=n*e->(Jb e n l).flatten=l/\(∀x∈Jb e n l,x.length=e)/\(Jb e n l).length=n
 | 0,l,h=>by
   have:l=[]:=zC (by simpa using h)
   subst this
   simp[Jb]
 | n+1,l,h=>by
   rw[Nat.succ_mul] at h
   obtain⟨d,c,b⟩:=XA e n (l.drop e) (by simp;omega)
   refine⟨by simp[Jb,d],λx a=>?_,by simp[Jb,b]⟩
   simp only[Jb,zE] at a
   rcases a with rfl|a
   ·simp;omega
   ·exact c x a
end
section
variable {B:Nat} {w:World} {g:Gh} {h h':List Ob} {P:Program} {T:Nat->AV} {a:Act} {x:AV}
def Did(P:Program)(s:Sem Next)(B:Nat)(w:World)(g:Gh)(h:List Ob)(x:AV)(h':List Ob):Prop:=
 ∃a v w' g',s.run P w= .ok a w'/\(a= .value v∨(a= .skip/\v=undef))/\Good B w g h w' g' h'/\AR (ctx w' g' h') x v
def DidV(P:Program)(s:Sem Value)(B:Nat)(w:World)(g:Gh)(h:List Ob)(x:AV)(h':List Ob):Prop:=
 ∃v w' g',s.run P w= .ok v w'/\Good B w g h w' g' h'/\AR (ctx w' g' h') x v
theorem DidV.did{s:Sem Value}(d:DidV P s B w g h x h'):Did P (do pure (.value (<-s))) B w g h x h':=by
 obtain⟨v,w',g',c,b,a⟩:=d
 exact⟨.value v,v,w',g',by simp[c],.inl rfl,b,a⟩
theorem jG{s:Sem Value}{v:Value}(c:HOk B w g h)(hB:B<=w.heap.size)(a:s.run P w= .ok v w)(b:AR (ctx w g h) x v):DidV P s B w g h x h:=
 ⟨v,w,g,a,Good.refl c hB,b⟩
def wF(c:Ctx)(T:Nat->AV)(a:Act):Prop:=∀i,AR c (T i) (a.tmps.getD i undef)
theorem jL{c:Ctx}(b:wF c T a):∀(x:Operand),AR c (ev T x) (a.eval x)
 | .tmp i=>b i
 | .const x=>W6 x
 | .func f=>⟨#[], #[],rfl,rfl,rfl⟩
 | .global _=>trivial
theorem Zc{c:Ctx}(b:wF c T a){x:Operand}{u:Value}(e:ev T x= .v u):a.eval x=u:=by
 have:=jL b x;rw[e] at this;exact this
theorem QB{c:Ctx}(b:wF c T a):∀(l:List Operand),ARs c (evl T l) (l.map a.eval)
 | []=>rfl
 | x::r=>⟨_,_,rfl,jL b x,QB b r⟩
theorem WO{c:Ctx}(b:wF c T a):∀(l:List (Nat × Operand)),Yga c (evs T l) (l.map λ(i,x)=>(i,a.eval x))
 | []=>rfl
 | (i,x)::r=>⟨_,_,rfl,jL b x,WO b r⟩
theorem jra{t:TypeId}{z:List Value}(h:(zO P t).zero=some z):(zO P t).ok=true:=by
 unfold zO at h⊢
 split at h
 ·rfl
 ·cases h
theorem jx{t:TypeId}{k:K}(h:(zO P t).kind=k)(a:k≠ .other):(zO P t).ok=true:=by
 unfold zO at h⊢
 split at h
 ·rfl
 ·exact absurd h.symm a
theorem Yc{t:TypeId}{i:TypeInfo}{z:Value}(hi:P.info? t=some i)(a:i.zero=some z):(zeroValue t).run P w= .ok z w:=by simp[zeroValue,typeInfo,hi,a]
inductive Made (B:Nat) (w:World) (g:Gh) (h:List Ob) (w':World) (v:Value):Ob->(Nat->AV)->Prop where
 | box (ty:TypeId) (cs:List AV) (vs:Array Value) (hw:w'=w.alloc (.cells vs ty)) (hv:v= .pointer (some ⟨w.heap.size,0,none⟩)) (hn:ARs (ctx w g h) cs vs.toList):Made B w g h w' v (.box ty cs) λi=> .ptr i 0
 | row (ty e:Nat) (xs:List (List AV)) (cells:List Value) (he:0<e) (hx:∀x∈xs,x.length=e) (hb:Below w.heap.size w w') (hown:w'.ownsRow B ty e v xs.length cells) (hn:ARs (ctx w g h) xs.flatten cells)
   (hbl:∀b,v.ownBlock=some b->w.heap.size<=b):Made B w g h w' v (.row ty e xs 0) λi=> .tl i 0
 | map (hw:w'=w.alloc (.map #[] 0)) (hv:v= .map (some w.heap.size)):Made B w g h w' v (.mapo []) λi=> .mp i
theorem Made.more{w':World}{v:Value}{o:Ob}{mk:Nat->AV}(m:Made B w g h w' v o mk)(i:HOk B w g h)(hB:B<=w.heap.size):∃g',Good B w g h w' g' (h++[o])/\AR (ctx w' g' (h++[o])) (mk h.length) v:=by
 cases m with
 | box ty cs vs d b f=>subst d b;exact⟨_,QSa i hB f⟩
 | row ty e xs cells j l k a f c=>exact⟨_,Jq i hB j l 0 k a f c⟩
 | map d b=>subst d b;exact⟨_,QTa i hB⟩
theorem Made.at{w':World}{v:Value}{o:Ob}{mk:Nat->AV}(m:Made B w g h w' v o mk)(j:HOk B w g h)(hB:B<=w.heap.size){i:Nat}(hi:h[i]? =some .res):∃g',Good B w g h w' g' (h.set i o)/\AR (ctx w' g' (h.set i o)) (mk i) v:=by
 cases m with
 | box ty cs vs d b f=>subst d b;exact⟨_,Yca j hB hi f⟩
 | row ty e xs cells k n l a f c=>exact⟨_,Yda j hB hi k n 0 l a f c⟩
 | map d b=>subst d b;exact⟨_,Yea j hB hi⟩
theorem Made.live{w':World}{v:Value}{o:Ob}{mk:Nat->AV}(m:Made B w g h w' v o mk):o.isRes=false:=by cases m<;>rfl
theorem Zba(k:HOk B w g h){t:TypeId}{z:List Value}(f:(zO P t).ok=true)(b:(zO P t).zero=some z):
  ∃v w',(Instr.alloc t true (.tuple #[])).run P w= .ok v w'/\Made B w g h w' v (.box t (z.map .v)) (λi=> .ptr i 0):=by
 obtain⟨d,i,j,hi,e⟩:=jt f
 rw[e] at b
 cases a:i.zero with
 | none=>rw[a] at b;cases b
 | some c=>
   rw[a] at b
   injection b with b
   subst b
   exact⟨_,_,by simp[Instr.alloc,Yc hi a,newVar,newRow],.box t _ c.cells rfl rfl (Jn _)⟩
theorem KBa(c:HOk B w g h){t:TypeId}{y:AV}{v:Value}{cs:List AV}(b:AR (ctx w g h) y v)(a:y.cells=some cs):
  ∃u w',(Instr.box t v).run P w= .ok u w'/\Made B w g h w' u (.box t cs) (λi=> .ptr i 0):=
 ⟨_,_,by simp[Instr.box,newVar,newRow],.box t _ v.cells rfl rfl (W7 a b).1⟩
theorem qpa:∀(a:List Field),(a.all λf=>(zO P f.type).ok)=true->a.mapM (λf=>(P.info? f.type).map λi=>(f.offset,i.size))=some (a.map λf=>(f.offset,(zO P f.type).sz))
 | [],_=>rfl
 | f::a,h=>by
   rw[List.all_cons,zl] at h
   obtain⟨d,i,b,hi,e⟩:=jt h.1
   simp[List.mapM_cons,hi,qpa a h.2,e]
theorem Zca(F:HOk B w g h)(hB:B<=w.heap.size)(C:wF (ctx w g h) T a){t:TypeId}{p:Array (Nat × Operand)}{n:List (Nat × TypeId)}{z:List Value}{cs:List AV}
  (m:(zO P t).kind= .struct n) (r:n.all (λf=>(zO P f.2).ok)=true) (k:(zO P t).zero=some z) (E:yA (XL P n) (z.map .v) (evs T p.toList)=some cs):
  DidV P (Instr.build t (p.map λ(i,x)=>(i,a.eval x))) B w g h (.ag cs) h:=by
 have s:=jra k
 obtain⟨d,i,A,hi,e⟩:=jt s
 rw[e] at k m
 cases d<;>try (cases m;done)
 rename_i fields
 injection m with m
 cases l:i.zero with
 | none=>rw[l] at k;cases k
 | some D=>
   rw[l] at k
   injection k with k
   subst k
   have o:(fields.toList.all λf=>(zO P f.type).ok)=true:=by rw[<-m,List.all_map] at r;exact r
   have q:=qpa (P:=P) fields.toList o
   obtain⟨b,u,y⟩:=Kt (c:=ctx w g h) (XL P n) (evs T p.toList) (p.toList.map λ(i,x)=>(i,a.eval x)) _ cs D.cells (WO C _) (Jn _) E
   refine jG F hB (v:= .agg b) (run_build w t _ b ?_) ⟨b,rfl,y⟩
   unfold Program.built
   simp only[hi,A,l,q]
   have:(λx=>(fields.toList.map λf=>(f.offset,(zO P f.type).sz)).toArray[x]?)=XL P n:=by
    funext j
    rw[<-m]
    simp[XL,Option.map_map,Function.comp_def]
   rw[this]
   simpa using u
theorem zZa(G:HOk B w g h)(hB:B<=w.heap.size)(F:wF (ctx w g h) T a){t e:TypeId}{m:Nat}{l:Array (Nat × Operand)}{z:List Value}{cs:List AV}
  (q:(zO P t).kind= .arr m e) (C:(zO P e).ok=true) (f:(zO P t).zero=some z) (A:yA (Zq (zO P e).sz) (z.map .v) (evs T l.toList)=some cs):
  DidV P (Instr.build t (l.map λ(i,x)=>(i,a.eval x))) B w g h (.ag cs) h:=by
 have J:=jra f
 obtain⟨d,i,I,hi,u⟩:=jt J
 rw[u] at f q
 cases d<;>try (cases q;done)
 rename_i n k
 injection q with hk1 hk2
 subst hk2
 obtain⟨K,H,D,r,p⟩:=jt C
 cases j:i.zero with
 | none=>rw[j] at f;cases f
 | some y=>
   rw[j] at f
   injection f with f
   subst f
   obtain⟨b,s,E⟩:=Kt (c:=ctx w g h) (Zq (zO P k).sz) (evs T l.toList) (l.toList.map λ(i,x)=>(i,a.eval x)) _ cs y.cells (WO F _) (Jn _) A
   refine jG G hB (v:= .agg b) (run_build w t _ b ?_) ⟨b,rfl,E⟩
   unfold Program.built
   simp only[hi,I,j,r]
   have o:H.size=(zO P k).sz:=by rw[p]
   rw[o]
   have:(λi=>some (i*(zO P k).sz,(zO P k).sz))=Zq (zO P k).sz:=rfl
   rw[this]
   simpa using s
theorem vsa(hh:HOk B w g h)(hB:B<=w.heap.size)(hT:wF (ctx w g h) T a){t e:TypeId}{n:Nat}{r:Array (Nat × Operand)}{cs:List AV}
  (u:(zO P t).kind= .slice e) (ho:(zO P e).ok=true) (h0:0<(zO P e).sz) (Z:n*(zO P e).sz<=16777216) (G:(zO P e).zero.isSome=true)
  (K:yA (Zq (zO P e).sz) (xia (n*(zO P e).sz)) (evs T r.toList)=some cs):
  ∃v w',(Instr.buildSlice t n (r.map λ(i,x)=>(i,a.eval x))).run P w= .ok v w'/\Made B w g h w' v (.row e (zO P e).sz (Jb (zO P e).sz n cs) 0) (λi=> .tl i 0):=by
 have ht:=jx u (by simp)
 obtain⟨d,i,U,hi,eq⟩:=jt ht
 rw[eq] at u
 cases d<;>try (cases u;done)
 injection u with u
 subst u
 rename_i e
 obtain⟨d',o,W,H,D⟩:=jt ho
 have I:(zO P e).sz=o.size:=by rw[D]
 rw[I] at h0 Z K⊢
 cases A:o.zero with
 | none=>rw[D] at G;simp[A] at G
 | some z=>
   obtain⟨k,Q,S⟩:=Kt (c:=ctx w g h) (Zq o.size) (evs T r.toList) (r.toList.map λ(i,x)=>(i,a.eval x)) _ cs ((Array.range (n*o.size)).map (z.cells[· % z.cells.size]!)) (WO hT _)
    (by have:=xoa (c:=ctx w g h) ((Array.range (n*o.size)).map (z.cells[· % z.cells.size]!)).toList;simpa using this) K
   have L:cs.length=n*o.size:=by
    have key:∀(l:List (Nat × AV)) (aZ rs:List AV),yA (Zq o.size) aZ l=some rs->rs.length=aZ.length:=by
     intro l
     induction l with
     | nil=>intro aZ rs h;injection h with h;rw[h]
     | cons p l J=>
       intro aZ rs h
       obtain⟨j,y⟩:=p
       simp only[yA] at h
       split at h
       ·split at h
        ·rename_i off size us hp hy hl
         cases q:lay aZ off us with
         | none=>rw[q] at h;cases h
         | some X=>rw[q] at h;rw[J _ _ h,WM q]
        ·cases h
       ·cases h
    have O:∀m,(xia m).length=m:=λm=>by induction m with|zero=>rfl|succ m J=>simp[xia,J]
    rw[key _ _ _ K,O]
   obtain⟨c1,c2,c3⟩:=XA o.size n cs L
   have s:k.size=n*o.size:=by have:=vB S;simp at this;omega
   have F:(Instr.buildSlice t n (r.map λ(i,x)=>(i,a.eval x))).run P w= .ok (.slice (some ⟨w.heap.size,0,none⟩) n n) (w.alloc (.cells k e)):=by
    by_cases C:n*o.size=0
    ·have M:n=0:=by
      rcases Nat.mul_eq_zero.1 C with h|h
      ·exact h
      ·omega
     subst M
     have V:((Array.range 0).map (z.cells[· % z.cells.size]!))= #[]:=by simp
     have R:Instr.fill (λi=>some (i*o.size,o.size)) #[] (r.map λ(i,x)=>(i,a.eval x)).toList=some k:=by
      have:=Q
      rw[Nat.zero_mul,V] at this
      rw[Array.toList_map]
      exact this
     generalize (r.map λ(i,x)=>(i,a.eval x))=qs at R
     have e1:∀f:Nat->Value,(Array.range 0).map f= #[]:=λf=>by simp[Array.range]
     simp[Instr.buildSlice,run_underlying U,sizeOf,typeInfo,H,e1,R,newRow]
    ·exact run_buildSlice w t e n _ k o z U H A (by omega) C (by rw[Array.toList_map];exact Q)
   have Y:n<=maxLen:=by
    have:n<=n*o.size:=Nat.le_mul_of_pos_right n h0
    simp only[maxLen]
    omega
   have N:k.toList.take (n*o.size)=k.toList:=List.take_of_length_le (by simp[s])
   have E:(w.alloc (.cells k e)).ownsRow B e o.size (.slice (some ⟨w.heap.size,0,none⟩) n n) (Jb o.size n cs).length k.toList:=by
    rw[c3]
    exact⟨by simpa using s,.inr ⟨w.heap.size,n,k,rfl,hB,heap_alloc_new w _,zn _,Y,s,N⟩⟩
   exact⟨_,_,F,.row e o.size _ _ h0 c2 ((Below.refl _ w).alloc (zn _) _) E (by rw[c1];exact S) (λb O=>by simp[Value.ownBlock] at O;omega)⟩
theorem XB(z:Array Value)(n:Nat):(madeCells z (n*z.size)).toList=(List.replicate n z.toList).flatten:=by
 by_cases q:z.size=0
 ·have b:z= #[]:=Array.eq_empty_of_size_eq_zero q
  subst b
  have:(List.replicate n ([]:List Value)).flatten=[]:=by rw[List.flatten_eq_nil_iff];intro l d;exact List.eq_of_mem_replicate d
  simp[madeCells,this,Array.range_zero']
 ·have p:∀x∈List.replicate n z.toList,x.length=z.size:=λx c=>by rw[List.eq_of_mem_replicate c];simp
  have d:(List.replicate n z.toList).flatten.length=n*z.size:=by
   have:∀m,(List.replicate m z.toList).flatten.length=m*z.size:=λm=>by
    induction m with
    | zero=>simp
    | succ m s=>rw[List.replicate_succ,List.flatten_cons,ze,s,Nat.succ_mul];simp;omega
   exact this n
  apply qP
  intro j
  by_cases e:j<n*z.size
  ·have g:j % z.size<z.size:=Nat.mod_lt _ (by omega)
   have t:j / z.size<n:=by rw[Nat.div_lt_iff_lt_mul (by omega)];exact e
   have o:(List.replicate n z.toList)[j / z.size]? =some z.toList:=by rw[List.getElem?_replicate,if_pos t]
   have h:z.toList[j % z.size]? =some z[j % z.size]:=by simp[g]
   have key:∀ {xs:List (List Value)},(∀x∈xs,x.length=z.size)->∀ {i k:Nat} {r:List Value} {a:Value},xs[i]? =some r->r[k]? =some a->xs.flatten[i*z.size+k]? =some a:=λc _ _ _ _ hi u=>ZT c hi u
   have f:=key p o h
   rw[show j / z.size*z.size+j % z.size=j by rw[Nat.mul_comm];exact Nat.div_add_mod j z.size] at f
   rw[f]
   simp[madeCells,e,g]
  ·rw[qA (by simp[madeCells];omega),qA (by rw[d];omega)]
theorem vta(T:HOk B w g h)(hB:B<=w.heap.size){t e:TypeId}{k1 k2:IntKind}{n:Int}{z:List Value}
  (j:(zO P t).kind= .slice e) (L:0<=n) (s:n*((zO P e).bytes+1)<=140737488355328) (M:(zO P e).ok=true) (h0:0<(zO P e).sz) (r:(zO P e).zero=some z) (E:z.length=(zO P e).sz):
  ∃v w',(Instr.makeSlice t (.int k1 n) (.int k2 n)).run P w= .ok v w'/\Made B w g h w' v (.row e (zO P e).sz (List.replicate n.toNat (z.map .v)) 0) (λi=> .tl i 0):=by
 obtain⟨d,it,H,Q,eq⟩:=jt (jx j (by simp))
 rw[eq] at j
 cases d<;>try (cases j;done)
 injection j with j
 subst j
 rename_i e
 obtain⟨R,i,J,hi,c⟩:=jt M
 have A:(zO P e).sz=i.size:=by rw[c]
 have D:(zO P e).bytes=i.bytes:=by rw[c]
 rw[A] at h0 E⊢
 rw[D] at s
 cases a:i.zero with
 | none=>rw[c] at r;simp[a] at r
 | some o=>
   have p:o.cells.toList=z:=by rw[c] at r;simpa [a] using r
   obtain⟨m,rfl⟩:=Int.eq_ofNat_of_zero_le L
   have C:m*(i.bytes+1)<=140737488355328:=by
    have:((m*(i.bytes+1):Nat):Int)<=140737488355328:=by simpa using s
    omega
   rw[Nat.mul_add,Nat.mul_one,Nat.mul_comm] at C
   have l:o.cells.size=i.size:=by rw[<-E, <-p];simp
   obtain⟨w',I,O,q⟩:=run_make_full (P:=P) w B t e i o i.size H hi a rfl k1 k2 m (by omega) (by simp only[maxLen];omega) hB
   obtain⟨F,G,K,_⟩:=run_make_full (P:=P) w w.heap.size t e i o i.size H hi a rfl k1 k2 m (by omega) (by simp only[maxLen];omega) (zn _)
   have u:F=w':=by rw[I] at G;injection G with _ h;exact h.symm
   subst u
   refine⟨_,F,I,?_⟩
   have f:(madeCells o.cells (m*i.size)).toList=(List.replicate m z).flatten:=by rw[<-l,XB,p]
   have y:(List.replicate m (z.map AV.v)).flatten=(List.replicate m z).flatten.map AV.v:=by
    induction m with
    | zero=>simp
    | succ m S=>simp[List.replicate_succ]
   simp only[Int.toNat_natCast,Int.ofNat_eq_natCast]
   refine .row e i.size _ (madeCells o.cells (m*i.size)).toList h0 (λx N=>by rw[List.eq_of_mem_replicate N];simp[E]) ⟨q.os,q.tape,q.output,q.size,λk j=>q.block k j (by simp)⟩ (by simpa using O) ?_ (λb s=>(World.ownsRow.lt K b s).1)
   rw[y,f]
   exact Jn _
theorem Yd(q:HOk B w g h)(hB:B<=w.heap.size)(p:wF (ctx w g h) T a){op:Op}{o:Ob}{mk:Nat->AV}(b:jA P T op=some (o,mk))(dst:Option Tmp)(type:TypeId)(pos:String)(after:Array Edge)(guard:Option (Nat × Bool)):
  ∃v w',(execOp a.eval ⟨dst,op,type,pos,after,guard⟩).run P w= .ok (.value v) w'/\Made B w g h w' v o mk:=by
 unfold jA at b
 split at b
 ·rename_i t
  split at b
  ·rename_i s
   cases i:(zO P t).zero with
   | none=>rw[i] at b;cases b
   | some z=>
     rw[i] at b
     injection b with b;injection b with hx1 hx2;subst hx1 hx2
     obtain⟨v,w',j,f⟩:=Zba (P:=P) q s i
     exact⟨v,w',by simp[execOp,j],f⟩
  ·cases b
 ·rename_i t y
  cases d:(ev T y).cells with
  | none=>rw[d] at b;cases b
  | some cs=>
    rw[d] at b
    injection b with b;injection b with hx1 hx2;subst hx1 hx2
    obtain⟨v,w',j,f⟩:=KBa (P:=P) (t:=t) q (jL p y) d
    exact⟨v,w',by simp[execOp,j],f⟩
 ·rename_i t n u
  split at b
  ·rename_i e r
   split at b
   ·rename_i k
    cases d:yA (Zq (zO P e).sz) (xia (n*(zO P e).sz)) (evs T u.toList) with
    | none=>rw[d] at b;cases b
    | some cs=>
      rw[d] at b
      injection b with b;injection b with hx1 hx2;subst hx1 hx2
      obtain⟨v,w',j,f⟩:=vsa q hB p r k.1 k.2.1 k.2.2.1 k.2.2.2 d
      exact⟨v,w',by simp[execOp,j],f⟩
   ·cases b
  ·cases b
 ·rename_i t l c
  split at b
  ·rename_i e k1 n k2 m r C d
   split at b
   ·rename_i k
    obtain⟨E,G,F,A,f5,f6⟩:=k
    subst E
    cases i:(zO P e).zero with
    | none=>rw[i] at b;cases b
    | some z=>
      rw[i] at b f6
      injection b with b;injection b with hx1 hx2;subst hx1 hx2
      have j:=Zc p C
      have f:=Zc p d
      obtain⟨v,w',D,x⟩:=vta (P:=P) (k1:=k1) (k2:=k2) q hB r G F A f5 i (by simpa using f6)
      exact⟨v,w',by simp[execOp,j,f,D],x⟩
   ·cases b
  ·cases b
 ·rename_i t
  split at b
  ·injection b with b;injection b with hx1 hx2;subst hx1 hx2
   exact⟨.map (some w.heap.size),w.alloc (.map #[] 0),by simp[execOp,Instr.makeMap,newObj];rfl,.map rfl rfl⟩
  ·cases b
 ·cases b
end
section
variable {B:Nat} {w:World} {g:Gh} {h h':List Ob} {P:Program} {x:AV}
theorem yca(q:HOk B w g h){a:AV}{e i k:Nat}{u:Value}(l:AR (ctx w g h) (.ep a e i k) u){xs:List (List AV)}(n:eOf h a=some e)(d:z6 h a=some xs):
  ∃A b,AR (ctx w g h) a (.slice (some A) xs.length b)/\RowsAt w (ctx w g h) e xs (some A)/\i<xs.length/\u= .pointer (some (A.add (i*e+k))):=by
 obtain⟨A,m,b,c,j,p⟩:=l
 obtain⟨s,k',o,r,f,_⟩:=wu q _ c d
 injection o with e4 e5 e6
 subst e5 e6
 have:=f e n
 rw[<-e4] at this
 exact⟨A,b,c,this,j,p⟩
theorem xqa(f:HOk B w g h)(hB:B<=w.heap.size){t:TypeId}{p:AV}{u:Value}(s:AR (ctx w g h) p u)(c:Jc h (zO P t) p=some x):DidV P (Instr.loadAt t u) B w g h x h:=by
 cases p with
 | ptr id off=>
   simp only[Jc] at c
   split at c
   ·rename_i ty cs E
    split at c
    ·rename_i G
     obtain⟨v,n,l⟩:=Vm (P:=P) G (W8 f E) c
     obtain⟨_,e⟩:=s
     subst e
     refine jG f hB (v:=v) ?_ l
     rw[Addr.add_lit,Nat.zero_add] at n
     simpa [Instr.loadAt,Instr.sureAddr,ctx] using n
    ·cases c
   ·cases c
 | ep a e i k=>
   simp only[Jc] at c
   split at c
   ·rename_i q
    cases j:z6 h a with
    | none=>rw[j] at c;cases c
    | some xs=>
      rw[j] at c
      simp only[Option.bind_some] at c
      cases hi:xs[i]? with
      | none=>rw[hi] at c;cases c
      | some r=>
        rw[hi] at c
        obtain⟨A,I,_,l,H,D⟩:=yca f s q.2 j
        subst D
        have d:PartAt w (ctx w g h) (A.add (i*e)) r:=λk b C=>by
         obtain⟨J,u,m,F,z⟩:=l.cell i k r b hi C
         injection m with m
         subst m
         exact⟨u,by rw[Addr.add_add];exact F,z⟩
        obtain⟨v,o,y⟩:=Vm (P:=P) q.1 d c
        refine jG f hB (v:=v) ?_ y
        rw[Addr.add_add] at o
        simpa [Instr.loadAt,Instr.sureAddr] using o
   ·cases c
 | _=>cases c
theorem XN{rest:List AV}:∀ {r:List AV} {k:Nat} {ns c:List AV},lay r k ns=some c->lay (r++rest) k ns=some (c++rest)
 | r,0,[],c,h=>by
   have e:∀l:List AV,lay l 0 []=some l:=λl=>by cases l<;>rfl
   rw[e] at h;cases h;exact e _
 | [],k+1,_,_,h=>by cases h
 | [],0,_::_,_,h=>by cases h
 | a::r,0,n::ns,c,h=>by
   simp only[lay] at h
   cases b:lay r 0 ns with
   | none=>rw[b] at h;cases h
   | some q=>
     rw[b] at h;injection h with h;subst h
     simp[lay,XN b]
 | a::r,k+1,ns,c,h=>by
   simp only[lay] at h
   cases b:lay r k ns with
   | none=>rw[b] at h;cases h
   | some q=>
     rw[b] at h;injection h with h;subst h
     simp[lay,XN b]
theorem xra{rest b:List AV}{m:Nat}{ns:List AV}(h:lay rest m ns=some b):∀(x:List AV),lay (x++rest) (x.length+m) ns=some (x++b)
 | []=>by simpa using h
 | a::x=>by
   rw[List.length_cons,show x.length+1+m=(x.length+m)+1 by omega]
   simp[lay,xra h x]
theorem V9{e:Nat}:∀ {xs:List (List AV)},(∀x∈xs,x.length=e)->∀ {i k:Nat} {r ns a:List AV},xs[i]? =some r->lay r k ns=some a->lay xs.flatten (i*e+k) ns=some (xs.set i a).flatten
 | x::xs,h,0,k,r,ns,a,hi,b=>by
   injection hi with hi
   subst hi
   simpa using XN (rest:=xs.flatten) b
 | x::xs,h,i+1,k,r,ns,a,hi,b=>by
   have c:=h x (by simp)
   have:=xra (V9 (xs:=xs) (λy d=>h y (by simp[d])) (i:=i) hi b) x
   rw[c] at this
   rw[show(i+1)*e+k=e+(i*e+k) by rw[Nat.succ_mul];omega]
   simpa using this
theorem yda(D:HOk B w g h)(hB:B<=w.heap.size){id ty e st:Nat}{xs xs':List (List AV)}(z:h[id]? =some (.row ty e xs st)){A:Addr}{E G:Nat}(d:g.cur id= .slice (some A) E G){o:Nat}{vs:List Value}{ns:List AV}
  (l:ARs (ctx w g h) ns vs) (F:∀v∈vs,v.oneCell'=true) (f:lay xs.flatten o ns=some xs'.flatten) (k:∀x∈xs',x.length=e) (a:xs'.length=xs.length):
  ∃w' g',(storeCells (A.add o) vs).run P w= .ok () w'/\Good B w g h w' g' (h.set id (.row ty e xs' st)):=by
 obtain⟨V,W,cells,y,T⟩:=D.ok id _ z
 obtain⟨K,C⟩:=Ks T _ l f
 rcases y.2 with⟨n,_⟩|⟨j,cap,cur,n,Q,r,s,N,J,M⟩
 ·have c:g.cur id=_:=n
  rw[c] at d;cases d
 ·have c:g.cur id=_:=n
  have q:A=⟨j,0,none⟩:=by
   rw[c] at d
   injection d with d
   injection d with d
   exact d.symm
  subst q
  have U:cells.length=xs.length*e:=y.1
  have L:xs.length*e<=cur.size:=by rw[J];exact Nat.mul_le_mul_right _ s
  have R:o+vs.length<=xs.length*e:=by rw[U] at C;exact C
  have i:=run_storeCells_at P j o ty vs 0 cur w r (by simp only[Nat.add_zero];omega) F
  simp only[Nat.add_zero] at i
  rw[Addr.add_lit,Nat.zero_add]
  refine⟨_,_,i,Qa (v':=g.cur id) (st':=st) (cells:=cells.take o++vs++cells.drop (o+vs.length)) D hB z k ?_ ?_ K (.inl ⟨rfl,rfl⟩) (λb S=> .inl S)⟩
  ·rw[c]
   exact Jp w j _
  ·rw[c]
   refine⟨?_,.inr ⟨j,cap,_,by rw[a],Q,setRow_heap w j cur _ ty _ r,by rw[a];exact s,N,?_,?_⟩⟩
   ·simp only[ze,qa,List.length_drop]
    rw[a]
    omega
   ·simp only[List.size_toArray,ze,qa,List.length_drop,qH]
    omega
   ·rw[a, <-M]
    apply qP
    intro m
    simp only[jr,List.getElem?_append,qa,ze,List.getElem?_drop,qH]
    have H:min (xs.length*e) cur.size=xs.length*e:=by omega
    simp only[H]
    have I:min o (xs.length*e)=o:=by omega
    have p:min o cur.size=o:=by omega
    simp only[I,p]
    by_cases u:m<o
    ·simp[u,show m<o+vs.length by omega,show m<xs.length*e by omega]
    ·by_cases t:m<o+vs.length
     ·simp[u,t,show m<xs.length*e by omega]
     ·have O:o+vs.length+(m - (o+vs.length))=m:=by omega
      simp[t,O]
theorem Zda(C:HOk B w g h)(hB:B<=w.heap.size){t:TypeId}{p y:AV}{u v:Value}{ns:List AV}(Q:AR (ctx w g h) p u)(W:AR (ctx w g h) y v)(ht:(zO P t).ok=true)(X:y.cells=some ns)(R:ns.length=(zO P t).sz)
  (b:Zr h ns p=some h'):∃w' g',(Instr.storeAt t u v).run P w= .ok () w'/\Good B w g h w' g' h':=by
 obtain⟨d,i,hu,hi,eq⟩:=jt ht
 obtain⟨m,n⟩:=W7 X W
 have f:v.cells.size=i.size:=by
  have:=vB m
  rw[eq] at R
  simp at this R
  omega
 have z:∀(E off:Nat) (ty:TypeId) (cur:Array Value),w.heap[E]? =some (.cells cur ty (0,0))->off+v.cells.toList.length<=cur.size->
   (Instr.storeAt t (.pointer (some ⟨E,off,none⟩)) v).run P w= .ok () (w.setRow E (cur.toList.take off++v.cells.toList++cur.toList.drop (off+v.cells.toList.length)).toArray):=λE off ty cur Y hb=>by
  have:=run_storeCells_at P E off ty v.cells.toList 0 cur w Y (by simpa using hb) n
  simp only[Nat.add_zero] at this
  simp[Instr.storeAt,Instr.sureAddr,storeVar,sizeOf,typeInfo,hi,f]
  simpa [f] using this
 cases p with
 | ptr id off=>
   simp only[Zr] at b
   split at b
   ·rename_i ty cs l
    cases c:lay cs off ns with
    | none=>rw[c] at b;cases b
    | some cs'=>
      rw[c] at b
      injection b with b
      subst b
      obtain⟨M,vs,O,N⟩:=C.ok id _ l
      obtain⟨J,T⟩:=Ks N off m c
      obtain⟨_,e⟩:=Q
      subst e
      exact⟨_,_,z _ off ty vs O (by simpa using T),W9 C hB l (by simpa using J)⟩
   ·cases b
 | ep a e j k=>
   cases a<;>try (cases b;done)
   rename_i id st
   simp only[Zr] at b
   split at b
   ·rename_i ty H xs s l
    split at b
    ·rename_i U
     obtain⟨K,G⟩:=U
     subst K G
     cases F:xs[j]? with
     | none=>rw[F] at b;cases b
     | some r=>
       rw[F] at b
       simp only[Option.bind_some] at b
       cases c:lay r k ns with
       | none=>rw[c] at b;cases b
       | some r'=>
         rw[c] at b
         injection b with b
         subst b
         have S:eOf h (.tl id s)=some H:=by simp[eOf,l]
         have V:z6 h (.tl id s)=some xs:=by simp[z6,l]
         obtain⟨A,cp,M,O,N,J⟩:=yca C Q S V
         subst J
         have q:=Jo M l
         obtain⟨q0,L,cells,q2,q3⟩:=C.ok id _ l
         have I:=V9 L F c
         have D:∀x∈xs.set j r',x.length=H:=λx b=>by
          rcases List.mem_or_eq_of_mem_set b with b|b
          ·exact L x b
          ·subst b;rw[WM c];exact L r (qi F)
         obtain⟨w',g',Z,z2⟩:=yda (P:=P) C hB l q.symm (o:=j*H+k) m n I D (by simp)
         refine⟨w',g',?_,z2⟩
         simp[Instr.storeAt,Instr.sureAddr,storeVar,sizeOf,typeInfo,hi,f]
         simpa [f] using Z
    ·cases b
   ·cases b
 | _=>cases b
end
section
variable {B:Nat} {w:World} {g:Gh} {h h':List Ob} {P:Program} {x:AV} {T:Nat->AV} {a:Act}
theorem Je{t ty e:TypeId}{i:TypeInfo}(a:P.underlying t=some (.slice e))(hi:P.info? e=some i)(base:Option Addr)(n cap k:Nat)(b:n<=cap):
  (Builtin.append_ #[t,t] ty #[.slice base n cap,.slice none 0 k]).run P w= .ok (.slice base n cap) w:=by
 cases base<;>simp[Builtin.append_,run_underlying a,sizeOf,typeInfo,hi,Builtin.lenOf,b,Builtin.firstCells,storeCells]
theorem qqa{c:Ctx}{e:Nat}{xs:List (List AV)}{A:Addr}(f:RowsAt w c e xs (some A))(t:∀r∈xs,r.all AV.one=true):
  ∃news:List Value,news.length=xs.length*e/\(∀j u,news[j]? =some u->w.cell? (A.add j)=some u)/\(∀u∈news,u.oneCell'=true)/\ARs c xs.flatten news:=by
 have z:PartAt w c A xs.flatten:=λk a l=>by
  by_cases v:e=0
  ·have:xs.flatten=[]:=by
    apply zC
    rw[vI f.len,v,Nat.mul_zero]
   rw[this] at l;cases l
  ·have g:=(zd.1 l).1
   rw[vI f.len] at g
   have hi:k / e<xs.length:=by rw[Nat.div_lt_iff_lt_mul (by omega)];exact g
   have C:k % e<e:=Nat.mod_lt _ (by omega)
   have d:xs[k / e]? =some xs[k / e]:=zi hi
   have y:xs[k / e].length=e:=f.len _ (zD hi)
   have b:xs[k / e][k % e]? =some xs[k / e][k % e]:=zi (by omega)
   have i:=ZT f.len d b
   have h:k / e*e+k % e=k:=by rw[Nat.mul_comm];exact Nat.div_add_mod k e
   rw[h,l] at i
   injection i with i
   obtain⟨D,u,o,q,s⟩:=f.cell _ _ _ _ d b
   injection o with o
   subst o
   rw[h] at q
   exact⟨u,q,by rw[i];exact s⟩
 obtain⟨vs,m,x⟩:=z.vals
 refine⟨vs,by rw[<-vB m,vI f.len],x,?_,m⟩
 refine Vl ?_ m
 rw[zR]
 intro a B
 obtain⟨r,n,p⟩:=List.mem_flatten.1 B
 exact zR.1 (t r n) a p
theorem jsa{a:Nat}{e:TypeId}{size:Nat}{v:Value}{k:Nat}{xs:List Value}(h:w.ownsRow B e size v k xs)(f:a<=B):w.ownsRow a e size v k xs:=by
 refine⟨h.1,?_⟩
 rcases h.2 with c|⟨g,cap,cur,b,d,r⟩
 ·exact .inl c
 ·exact .inr ⟨g,cap,cur,b,Nat.le_trans f d,r⟩
theorem vua{t ty e:TypeId}{i:TypeInfo}{z:Value}(r:P.underlying t=some (.slice e))(hi:P.info? e=some i)(B:i.zero=some z)(C:0<i.size)
  {D:Nat} {v:Value} {n:Nat} {xs:List Value} (h:w.ownsRow D e i.size v n xs) {l:Addr} {m c:Nat} {news:List Value} (s:news.length=m*i.size) (a:∀j u,news[j]? =some u->w.cell? (l.add j)=some u) (E:∀u∈news,u.oneCell'=true)
  (x:n+m<=maxLen) (d:(n+m)*i.bytes<=140737488355328) {v':Value} {w':World} (k:(Builtin.append_ #[t,t] ty #[v,.slice (some l) m c]).run P w= .ok v' w') (b:Nat) (q:v'.ownBlock=some b):
  v.ownBlock=some b∨w.heap.size<=b:=by
 have p:n+m<=9223372036854775807:=by simp only[maxLen] at x;omega
 rcases h.2 with⟨rfl,rfl⟩|⟨g,cap,cur,rfl,H,J,F,G,A,y⟩
 ·by_cases I:m=0
  ·subst I
   have:(Builtin.append_ #[t,t] ty #[.slice none 0 0,.slice (some l) 0 c]).run P w= .ok (.slice none 0 0) w:=by
    simp[Builtin.append_,run_underlying r,sizeOf,typeInfo,hi,Builtin.lenOf,Builtin.firstCells,loadCells,loadCellsFrom]
   rw[this] at k
   injection k with e1 e2
   subst e1
   simp[Value.ownBlock] at q
  ·rw[run_append_nil (P:=P) w t ty e i z r hi B l m c news s a (by omega) (by omega) (by simp only[Nat.zero_add] at d;omega)] at k
   injection k with e1 e2
   subst e1
   simp[Value.ownBlock] at q
   exact .inr (by omega)
 ·by_cases f:n+m<=cap
  ·have o:n*i.size+news.length<=cur.size:=by rw[s,A, <-Nat.add_mul];exact Nat.mul_le_mul_right _ f
   rw[run_append_room (P:=P) w t ty e i r hi g n cap cur J l m c news s a E f o] at k
   injection k with e1 e2
   subst e1
   exact .inl q
  ·have holds:∀j u,xs[j]? =some u->w.cell? ((⟨g,0,none⟩:Addr).add j)=some u:=h.cells (g:=g) rfl
   rw[run_append_grow (P:=P) w t ty e i z r hi B ⟨g,0,none⟩ n cap xs h.1 holds l m c news s a (by omega) (by omega) (growslice_fits (by omega) d)] at k
   injection k with e1 e2
   subst e1
   simp[Value.ownBlock] at q
   exact .inr (by omega)
theorem vva(Z:HOk B w g h)(hB:B<=w.heap.size){t ty e:TypeId}{s y:AV}{u v:Value}(hs:AR (ctx w g h) s u)(hy:AR (ctx w g h) y v)(M:(zO P t).kind= .slice e)(a:QA P h e s y=some (x,h')):
  DidV P (Builtin.append_ #[t,t] ty #[u,v]) B w g h x h':=by
 obtain⟨d,it,hu,hit,eq⟩:=jt (jx M (by simp))
 rw[eq] at M
 cases d<;>try (cases M;done)
 injection M with M
 subst M
 rename_i e
 unfold QA at a
 cases o:z6 h y with
 | none=>simp[o] at a
 | some ys=>
   simp only[o,Option.bind_some] at a
   split at a
   ·rename_i hc
    obtain⟨ho,h0,W,L⟩:=hc
    obtain⟨d',i,ω,hi,H⟩:=jt ho
    have ζ:(zO P e).sz=i.size:=by rw[H]
    have ο:(zO P e).bytes=i.bytes:=by rw[H]
    rw[ζ] at h0 L W a
    rw[ο] at a
    cases C:i.zero with
    | none=>rw[H] at W;simp[C] at W
    | some z=>
      rw[H] at W
      have Y:z.cells.size=i.size:=by simpa [C] using W
      have c:∀r∈ys,r.length=i.size/\r.all AV.one=true:=λr o=>by
       have:=zR.1 L r o
       simpa only[zl,beq_iff_eq] using this
      obtain⟨A,k,e1,e2,e3,e4⟩:=wu Z _ hy o
      subst e1
      have p:(∃n,A=some n)->∃n news,A=some n/\news.length=ys.length*i.size/\(∀j u,news[j]? =some u->w.cell? (n.add j)=some u)/\(∀u∈news,u.oneCell'=true)/\ARs (ctx w g h) ys.flatten news:=by
       rintro ⟨n,rfl⟩
       cases f:ys with
       | nil=>exact⟨n,[],rfl,by simp,by simp,by simp,rfl⟩
       | cons r rs=>
         cases U:eOf h y with
         | none=>rw[e4 U] at f;cases f
         | some T=>
           have K:=e3 T U
           have ν:T=i.size:=by rw[<-K.len r (by rw[f];simp),(c r (by rw[f];simp)).1]
           subst ν
           obtain⟨news,n1,n2,n3,n4⟩:=qqa K λr o=>(c r o).2
           rw[<-f]
           exact⟨n,news,rfl,n1,n2,n3,n4⟩
      have D:A=none->ys=[]:=λJ=>by
       cases f:ys with
       | nil=>rfl
       | cons r rs=>
         cases U:eOf h y with
         | none=>rw[e4 U] at f;cases f
         | some T=>
           have K:=e3 T U
           have hr0:=(c r (by rw[f];simp)).1
           obtain⟨n,u,q1,_⟩:=K.cell 0 0 r (nth r 0) (by rw[f];rfl) (ZS (by omega))
           rw[J] at q1;cases q1
      split at a
      ·rename_i id st
       split at a
       ·rename_i E T xs s q
        split at a
        ·rename_i ρ
         obtain⟨c1,c2,c3,V⟩:=ρ
         subst c1 c2 c3
         injection a with a
         injection a with hx1 hx2
         subst hx1 hx2
         have m:=Jo hs q
         obtain⟨q0,q1,cells,q2,q3⟩:=Z.ok id _ q
         have F:w.ownsRow B E i.size (g.cur id) xs.length cells:=q2
         rw[<-m] at F
         have κ:xs.length+ys.length<=140737488355328:=Nat.le_trans (Nat.le_mul_of_pos_right _ (by omega)) V
         have G:(xs.length+ys.length)*i.bytes<=140737488355328:=Nat.le_trans (Nat.mul_le_mul_left _ (by omega)) V
         have σ:∀x∈xs++ys,x.length=i.size:=λx a=>by
          rcases zJ.1 a with a|a
          ·exact q1 x a
          ·exact(c x a).1
         have fin:∀(v':Value) (w':World) (l:List Value),w'.ownsRow B E i.size v' (xs++ys).length l->ARs (ctx w g h) (xs++ys).flatten l->w.grownBy w' (g.cur id).ownBlock->(∀b,v'.ownBlock=some b->(g.cur id).ownBlock=some b∨w.heap.size<=b)->
           Good B w g h w' ⟨g.β,λj=>if j=id then v' else g.cur j⟩ (h.set id (.row E i.size (xs++ys) (s+1)))/\AR (ctx w' ⟨g.β,λj=>if j=id then v' else g.cur j⟩ (h.set id (.row E i.size (xs++ys) (s+1)))) (.tl id (s+1)) v':=λv' w' l R S I r4=>by
          refine⟨Qa Z hB q σ I R S (.inr (by omega)) r4,?_,⟨_,zo (vH q),rfl⟩,λs' μ=>?_⟩
          ·obtain⟨A,cp,e1,_⟩:=w8 R;exact⟨A,_,cp,e1⟩
          ·have:s+1=s':=by
            have:=μ
            simp only[ctx,zo (vH q),Ob.tok,Option.some.injEq] at this
            exact this
           exact⟨by omega,λ_=>by simp[ctx]⟩
         cases J:A with
         | none=>
           have Q:=D J
           subst Q
           obtain⟨A0,cp,z1,z2⟩:=w8 F
           have o:=Je (P:=P) (w:=w) (ty:=ty) hu hi A0 xs.length cp k z2
           rw[<-z1] at o
           obtain⟨N,O⟩:=fin u w cells (by simpa using F) (by simpa using q3) ⟨rfl,rfl,rfl,zn _,λ_ _ _=>rfl⟩ (λb hb=> .inl (by have e:u=g.cur id:=m;rw[<-e];exact hb))
           exact⟨_,_,_,by simpa using o,N,O⟩
         | some n=>
           obtain⟨υ,news,n1,n2,n3,n4,n5⟩:=p ⟨n,J⟩
           rw[J] at n1
           injection n1 with n1
           subst n1
           obtain⟨v',w',R,S,I,r4⟩:=run_append_own (P:=P) w B t ty E i z i.size i.bytes hu hi C rfl rfl Y h0 u xs.length cells F n ys.length k news n2 n3 n4 (by simp only[maxLen];omega) G hB
           have ι:w.grownBy w' (g.cur id).ownBlock:=by have e:u=g.cur id:=m;rw[<-e];exact I
           obtain⟨N,O⟩:=fin v' w' (cells++news) (by rw[ze];exact S) (by rw[List.flatten_append];exact xj q3 n5) ι (λb hb=>by
            rcases vua (P:=P) (w:=w) hu hi C h0 F n2 n3 n4 (by simp only[maxLen];omega) G R b hb with h9|h9
            ·have e:u=g.cur id:=m
             exact .inl (by rw[<-e];exact h9)
            ·exact .inr h9)
           exact⟨_,_,_,R,N,O⟩
        ·cases a
       ·cases a
      ·split at a
       ·rename_i V
        injection a with a
        injection a with hx1 hx2
        subst hx1 hx2
        have hs:u= .slice none 0 0:=hs
        subst hs
        have κ:ys.length<=140737488355328:=Nat.le_trans (Nat.le_mul_of_pos_right _ (by omega)) V
        have G:ys.length*i.bytes<=140737488355328:=Nat.le_trans (Nat.mul_le_mul_left _ (by omega)) V
        cases J:A with
        | none=>
          have Q:=D J
          subst Q
          have o:=Je (P:=P) (w:=w) (ty:=ty) hu hi none 0 0 k (zn _)
          obtain⟨N,O⟩:=Jq Z hB (ty:=e) h0 (xs:=[]) (by simp) 0 (Below.refl _ w) (World.ownsRow_nil w B e i.size) rfl (by simp[Value.ownBlock])
          exact⟨_,_,_,by simpa using o,N,O⟩
        | some n=>
          obtain⟨υ,news,n1,n2,n3,n4,n5⟩:=p ⟨n,J⟩
          rw[J] at n1
          injection n1 with n1
          subst n1
          obtain⟨v',w',R,S,I,r4⟩:=run_append_own (P:=P) w w.heap.size t ty e i z i.size i.bytes hu hi C rfl rfl Y h0 (.slice none 0 0) 0 [] (World.ownsRow_nil w _ e i.size) n ys.length k news n2 n3 n4 (by simp only[maxLen];omega) (by simpa using G) (zn _)
          have X:Below w.heap.size w w':=⟨I.os,I.tape,I.output,I.size,λk M=>I.block k M (by simp[Value.ownBlock])⟩
          obtain⟨N,O⟩:=Jq Z hB (ty:=e) h0 (λx a=>(c x a).1) 0 X (jsa (by simpa using S) hB) n5 (λb hb=>(World.ownsRow.lt S b hb).1)
          exact⟨_,_,_,R,N,O⟩
       ·cases a
      ·cases a
   ·cases a
end
