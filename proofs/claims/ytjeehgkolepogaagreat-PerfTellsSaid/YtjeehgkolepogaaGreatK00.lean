import Derived.Test.YtjeehgkolepogaaGreatKA
import Derived.Below
import Derived.Laws.AppendOwn
import Derived.Laws.Tables
import Derived.Laws.Cells
import Derived.Laws.Slices
import Derived.Laws.StructEq
import Derived.DataElems
set_option linter.all false
namespace Go.Proofs.YtjeehgkolepogaaGreat.Ax
open Go
inductive AV where
 | v (x:Value)
 | sl (e:Nat) (xs:List (List AV))
 | tl (id st:Nat)
 | em
 | vw (a:AV) (e i n:Nat)
 | ptr (id off:Nat)
 | ep (a:AV) (e i k:Nat)
 | mp (id:Nat)
 | ag (cs:List AV)
 | tup (cs:List AV)
 | fn (f:Fn) (first cs:List AV)
 | bad
structure Ctx where
 rd:Addr->Value->Prop
 n:Nat
 live:Nat->Prop
 β:Nat->Nat
 cur:Nat->Value
 tok:Nat->Option Nat
def Tok(c:Ctx)(id st:Nat)(u:Value):Prop:=c.live id/\∀s,c.tok id=some s->st<=s/\(st=s->u=c.cur id)
mutual
def AR(c:Ctx):AV->Value->Prop
 | .v x,u=>u=x
 | .sl e xs,u=>∃A k,u= .slice A xs.length k/\xs.length<=k/\ARows c A e 0 xs
 | .tl id st,u=>(∃A n k,u= .slice A n k)/\Tok c id st u
 | .em,u=>∃A k,u= .slice (some A) 0 k
 | .vw a e i n,u=>∃A m g d k,AR c a (.slice A m g)/\i+n<=m/\n<=k/\u= .slice d n k/\(0<n->∃h,A=some h/\d=some (h.add (i*e)))/\(i=0->(d=A∨d=A.map (·.add 0))/\k=g)
 | .ptr id off,u=>c.live id/\u= .pointer (some ⟨c.β id,off,none⟩)
 | .ep a e i k,u=>∃A m g,AR c a (.slice (some A) m g)/\i<m/\u= .pointer (some (A.add (i*e+k)))
 | .mp id,u=>c.live id/\u= .map (some (c.β id))
 | .ag b,u=>∃vs,u= .agg vs/\ARs c b vs.toList
 | .tup b,u=>∃vs,u= .tuple vs/\ARs c b vs.toList
 | .fn f l b,u=>∃j vs,u= .func f j vs/\ARs c l j.toList/\ARs c b vs.toList
 | .bad,_=>True
def ARs(c:Ctx):List AV->List Value->Prop
 | [],vs=>vs=[]
 | a::aZ,vs=>∃v r,vs=v::r/\AR c a v/\ARs c aZ r
def ARows(c:Ctx)(A:Option Addr)(e:Nat):Nat->List (List AV)->Prop
 | _,[]=>True
 | i,r::rs=>(r.length=e/\ACells c A (i*e) r)/\ARows c A e (i+1) rs
def ACells(c:Ctx)(A:Option Addr):Nat->List AV->Prop
 | _,[]=>True
 | k,a::aZ=>(∃b u,A=some b/\c.rd (b.add k) u/\AR c a u)/\ACells c A (k+1) aZ
end
structure Le (c c':Ctx):Prop where
 rd:∀a u,c.rd a u->c'.rd a u
 n:c.n<=c'.n
 live:∀i,c.live i->c'.live i
 β:∀i,c.live i->c'.β i=c.β i
 tok:∀i,c.live i->∀s,c'.tok i=some s->∃s0,c.tok i=some s0/\((s=s0/\c'.cur i=c.cur i)∨s0<s)
def Le.refl(c:Ctx):Le c c:=⟨λ_ _ h=>h,zB _,λ_ h=>h,λ_ _=>rfl,λ_ _ s h=>⟨s,h,.inl ⟨rfl,rfl⟩⟩⟩
def Le.trans{a b c:Ctx}(h:Le a b)(k:Le b c):Le a c:=
 ⟨λx u l=>k.rd x u (h.rd x u l),Nat.le_trans h.n k.n,λi hi=>k.live i (h.live i hi),λi hi=>(k.β i (h.live i hi)).trans (h.β i hi),λi hi s m=>by
  obtain⟨s1,g,o⟩:=k.tok i (h.live i hi) s m;obtain⟨s0,j,f⟩:=h.tok i hi s1 g;refine⟨s0,j,?_⟩;rcases o with⟨rfl,e⟩|e
  ·rcases f with⟨rfl,d⟩|d
   ·exact .inl ⟨rfl,e.trans d⟩
   ·exact .inr d
  ·rcases f with⟨rfl,_⟩|d
   ·exact .inr e
   ·exact .inr zb⟩
def Tok.le{c c':Ctx}(h:Le c c'){id st:Nat}{u:Value}(a:Tok c id st u):Tok c' id st u:=
 ⟨h.live id a.1,λs g=>by
  obtain⟨s0,d,i⟩:=h.tok id a.1 s g;obtain⟨f,j⟩:=a.2 s0 d;rcases i with⟨rfl,b⟩|b
  ·exact⟨f,λe=>by rw[b];exact j e⟩
  ·exact⟨zb,λe=>zb⟩⟩
mutual
def AR.le{c c':Ctx}(h:Le c c'):∀(a:AV) (u:Value),AR c a u->AR c' a u
 | .v _,_,e=>e
 | .sl e xs,u,⟨A,k,b,d,j⟩=>⟨A,k,b,d,ARows.le h A e 0 xs j⟩
 | .tl id st,u,b=>⟨b.1,Tok.le h b.2⟩
 | .em,_,b=>b
 | .vw a e i n,u,⟨A,m,l,q,k,b,d⟩=>⟨A,m,l,q,k,AR.le h a _ b,d⟩
 | .ptr id off,u,⟨b,d⟩=>⟨h.live id b,by rw[h.β id b];exact d⟩
 | .ep a e i k,u,⟨A,m,l,b,d,j⟩=>⟨A,m,l,AR.le h a _ b,d,j⟩
 | .mp id,u,⟨b,d⟩=>⟨h.live id b,by rw[h.β id b];exact d⟩
 | .ag g,u,⟨vs,b,d⟩=>⟨vs,b,ARs.le h g _ d⟩
 | .tup g,u,⟨vs,b,d⟩=>⟨vs,b,ARs.le h g _ d⟩
 | .fn f o g,u,⟨p,vs,b,d,j⟩=>⟨p,vs,b,ARs.le h o _ d,ARs.le h g _ j⟩
 | .bad,_,_=>True.intro
def ARs.le{c c':Ctx}(h:Le c c'):∀(aZ:List AV) (vs:List Value),ARs c aZ vs->ARs c' aZ vs
 | [],_,e=>e
 | a::aZ,vs,⟨v,r,b,f,d⟩=>⟨v,r,b,AR.le h a v f,ARs.le h aZ r d⟩
def ARows.le{c c':Ctx}(h:Le c c')(A:Option Addr)(e:Nat):∀(i:Nat) (rs:List (List AV)),ARows c A e i rs->ARows c' A e i rs
 | _,[],_=>True.intro
 | i,r::rs,⟨⟨a,d⟩,b⟩=>⟨⟨a,ACells.le h A (i*e) r d⟩,ARows.le h A e (i+1) rs b⟩
def ACells.le{c c':Ctx}(h:Le c c')(A:Option Addr):∀(k:Nat) (aZ:List AV),ACells c A k aZ->ACells c' A k aZ
 | _,[],_=>True.intro
 | k,a::aZ,⟨⟨b,u,d,f,e⟩,g⟩=>⟨⟨b,u,d,h.rd _ _ f,AR.le h a u e⟩,ACells.le h A (k+1) aZ g⟩
end
mutual
def AV.lt(n:Nat):AV->Bool
 | .v _=>true
 | .sl _ xs=>jh n xs
 | .tl id _=>decide (id<n)
 | .em=>true
 | .vw a _ _ _=>a.lt n
 | .ptr id _=>decide (id<n)
 | .ep a _ _ _=>a.lt n
 | .mp id=>decide (id<n)
 | .ag b=>qN n b
 | .tup b=>qN n b
 | .fn _ c b=>qN n c && qN n b
 | .bad=>true
def qN(n:Nat):List AV->Bool
 | []=>true
 | a::aZ=>a.lt n && qN n aZ
def jh(n:Nat):List (List AV)->Bool
 | []=>true
 | r::rs=>qN n r && jh n rs
end
structure Less (n:Nat) (c c':Ctx):Prop where
 rd:∀a u,c.rd a u->c'.rd a u
 sz:c'.n=n
 live:∀i,i<n->c.live i->c'.live i
 β:∀i,i<n->c'.β i=c.β i
 tok:∀i,i<n->c'.tok i=c.tok i
 cur:∀i,i<n->c'.cur i=c.cur i
mutual
def AR.less{n:Nat}{c c':Ctx}(h:Less n c c'):∀(a:AV) (u:Value),a.lt n=true->AR c a u->AR c' a u
 | .v _,_,_,e=>e
 | .sl e xs,u,l,⟨A,k,b,d,j⟩=>⟨A,k,b,d,ARows.less h A e 0 xs (by simpa [AV.lt] using l) j⟩
 | .tl id st,u,l,b=>by
   have l:id<n:=(by simpa [AV.lt] using l);exact⟨b.1,h.live id l b.2.1,λs q=>by rw[h.tok id l] at q;rw[h.cur id l];exact b.2.2 s q⟩
 | .em,_,_,b=>b
 | .vw a e i n,u,l,⟨A,m,o,t,k,b,d⟩=>⟨A,m,o,t,k,AR.less h a _ (by simpa [AV.lt] using l) b,d⟩
 | .ptr id off,u,l,⟨b,d⟩=>by
   have l:id<n:=(by simpa [AV.lt] using l);exact⟨h.live id l b,by rw[h.β id l];exact d⟩
 | .ep a e i k,u,l,⟨A,m,o,b,d,j⟩=>⟨A,m,o,AR.less h a _ (by simpa [AV.lt] using l) b,d,j⟩
 | .mp id,u,l,⟨b,d⟩=>by
   have l:id<n:=(by simpa [AV.lt] using l);exact⟨h.live id l b,by rw[h.β id l];exact d⟩
 | .ag g,u,l,⟨vs,b,d⟩=>⟨vs,b,ARs.less h g _ (by simpa [AV.lt] using l) d⟩
 | .tup g,u,l,⟨vs,b,d⟩=>⟨vs,b,ARs.less h g _ (by simpa [AV.lt] using l) d⟩
 | .fn f p g,u,l,⟨r,vs,b,d,j⟩=>by
   have l:qN n p=true/\qN n g=true:=(by simpa [AV.lt] using l);exact⟨r,vs,b,ARs.less h p _ l.1 d,ARs.less h g _ l.2 j⟩
 | .bad,_,_,_=>True.intro
def ARs.less{n:Nat}{c c':Ctx}(h:Less n c c'):∀(aZ:List AV) (vs:List Value),qN n aZ=true->ARs c aZ vs->ARs c' aZ vs
 | [],_,_,e=>e
 | a::aZ,vs,l,⟨v,r,b,f,d⟩=>by
   have l:a.lt n=true/\qN n aZ=true:=(by simpa [qN] using l);exact⟨v,r,b,AR.less h a v l.1 f,ARs.less h aZ r l.2 d⟩
def ARows.less{n:Nat}{c c':Ctx}(h:Less n c c')(A:Option Addr)(e:Nat):∀(i:Nat) (rs:List (List AV)),jh n rs=true->ARows c A e i rs->ARows c' A e i rs
 | _,[],_,_=>True.intro
 | i,r::rs,l,⟨⟨a,d⟩,b⟩=>by
   have l:qN n r=true/\jh n rs=true:=(by simpa [jh] using l);exact⟨⟨a,ACells.less h A (i*e) r l.1 d⟩,ARows.less h A e (i+1) rs l.2 b⟩
def ACells.less{n:Nat}{c c':Ctx}(h:Less n c c')(A:Option Addr):∀(k:Nat) (aZ:List AV),qN n aZ=true->ACells c A k aZ->ACells c' A k aZ
 | _,[],_,_=>True.intro
 | k,a::aZ,l,⟨⟨b,u,d,f,e⟩,g⟩=>by
   have l:a.lt n=true/\qN n aZ=true:=(by simpa [qN] using l);exact⟨⟨b,u,d,h.rd _ _ f,AR.less h a u l.1 e⟩,ACells.less h A (k+1) aZ l.2 g⟩
end
open Go.RowKit
inductive Ob where
 | box (ty:TypeId) (cs:List AV)
 | row (ty e:Nat) (xs:List (List AV)) (st:Nat)
 | mapo (es:List (AV × AV))
 | raw (l:Nat) (o:Obj) (ks:List AV) (us:List Value)
 | gone
 | res
def Ob.isRes:Ob->Bool
 | .res=>true
 | _=>false
structure Gh where
 β:Nat->Nat
 cur:Nat->Value
def Ob.blk(g:Gh)(i:Nat):Ob->Option Nat
 | .box _ _=>some (g.β i)
 | .row _ _ _ _=>(g.cur i).ownBlock
 | .mapo _=>some (g.β i)
 | .raw l _ _ _=>some l
 | .gone | .res=>none
def kept(g:Gh)(h:List Ob)(b:Nat):Prop:=∃(i:Nat) (o:Ob),h[i]? =some o/\o.blk g i=some b
def Ob.tok:Option Ob->Option Nat
 | some (.row _ _ _ st)=>some st
 | _=>none
def ctx(w:World)(g:Gh)(h:List Ob):Ctx:=
 { rd:=λa u=>¬ kept g h a.block/\w.cell? a=some u
   n:=h.length
   live:=λi=>∃o,h[i]? =some o/\o.isRes=false
   β:=g.β
   cur:=g.cur
   tok:=λi=>Ob.tok h[i]? }
def MapRel(c:Ctx):List (AV × AV)->List MapEntry->Prop
 | [],es=>es=[]
 | (k,v)::r,es=>∃e q,es=e::q/\AR c k e.key/\AR c v e.val/\MapRel c r q
def MapRel.le{c c':Ctx}(h:Le c c'):∀(l:List (AV × AV)) (es:List MapEntry),MapRel c l es->MapRel c' l es
 | [],_,e=>e
 | (_,_)::r,_,⟨e,q,a,f,d,b⟩=>⟨e,q,a,AR.le h _ _ f,AR.le h _ _ d,MapRel.le h r q b⟩
def Ob.ok(B:Nat)(w:World)(c:Ctx)(i:Nat):Ob->Prop
 | .box ty f=>B<=c.β i/\∃vs,w.heap[c.β i]? =some (.cells vs ty (0,0))/\ARs c f vs.toList
 | .row ty e xs _=>0<e/\(∀x∈xs,x.length=e)/\∃cells,w.ownsRow B ty e (c.cur i) xs.length cells/\ARs c xs.flatten cells
 | .mapo l=>B<=c.β i/\∃es k a,w.heap[c.β i]? =some (.map es k)/\a.Perm l/\MapRel c a es.toList/\(es.toList.map (·.key)).Nodup
 | .raw l o b d=>B<=l/\w.heap[l]? =some o/\ARs c b d
 | .gone | .res=>True
structure HOk (B:Nat) (w:World) (g:Gh) (h:List Ob):Prop where
 ok:∀(i:Nat) (o:Ob),h[i]? =some o->o.ok B w (ctx w g h) i
 apart:∀(i j:Nat) (o p:Ob) (b:Nat),i≠j->h[i]? =some o->h[j]? =some p->o.blk g i=some b->p.blk g j≠some b
section
variable {B:Nat} {w w':World} {g g':Gh} {h h':List Ob} {i:Nat} {o o':Ob}
def v1a{c:Ctx}(h:o.ok B w c i)(j:c.β=g.β)(m:c.cur=g.cur){b:Nat}(a:o.blk g i=some b):B<=b/\b<w.heap.size:=by
 cases o with
 | box ty q=>
   obtain⟨f,vs,d,_⟩:=h;rw[j] at f d;injection a with a;subst a;exact⟨f,(q9.1 d).1⟩
 | row ty e xs st=>
   obtain⟨_,_,cells,d,_⟩:=h;rw[m] at d;exact World.ownsRow.lt d b a
 | mapo l=>
   obtain⟨f,vs,k,n,d,_⟩:=h;rw[j] at f d;injection a with a;subst a;exact⟨f,(q9.1 d).1⟩
 | raw l o r p=>
   obtain⟨f,d,_⟩:=h;injection a with a;subst a;exact⟨f,(q9.1 d).1⟩
 | gone=>cases a
 | res=>cases a
def HOk.lt(k:HOk B w g h)(hi:h[i]? =some o){b:Nat}(a:o.blk g i=some b):B<=b/\b<w.heap.size:=v1a (k.ok i o hi) rfl rfl a
def Kt{D:Nat}{e:TypeId}{size:Nat}{v:Value}{k:Nat}{xs:List Value}(h:w.ownsRow D e size v k xs)(d:∀b,v.ownBlock=some b->w'.heap[b]? =w.heap[b]?):w'.ownsRow D e size v k xs:=by
 refine⟨h.1,?_⟩;rcases h.2 with i|⟨g,cap,cur,a,c,f,r⟩
 ·exact .inl i
 ·subst a;exact .inr ⟨g,cap,cur,rfl,c,(d g rfl).trans f,r⟩
def Ob.ok_le{c c':Ctx}(hi:o.isRes=false->c.live i)(d:o.ok B w c i)(a:Le c c')(s:c'.cur i=c.cur i)(q:c.β=g.β)(n:c.cur=g.cur)(m:∀b,o.blk g i=some b->w'.heap[b]? =w.heap[b]?):o.ok B w' c' i:=by
 cases o with
 | box ty y=>
   obtain⟨f,vs,j,h⟩:=d;have hi:=hi rfl;refine⟨by rw[a.β i hi];exact f,vs,?_,ARs.le a _ _ h⟩;rw[a.β i hi];exact(m _ (by rw[q];rfl)).trans j
 | row ty e xs st=>
   obtain⟨f,u,cells,j,h⟩:=d;refine⟨f,u,cells,?_,ARs.le a _ _ h⟩;rw[s];exact Kt j λb p=>m b (by rw[n] at p;exact p)
 | mapo l=>
   obtain⟨f,vs,k,r,j,t,h,v⟩:=d;have hi:=hi rfl;refine⟨by rw[a.β i hi];exact f,vs,k,r,?_,t,MapRel.le a _ _ h,v⟩;rw[a.β i hi];exact(m _ (by rw[q];rfl)).trans j
 | raw l o z x=>exact⟨d.1,(m _ rfl).trans d.2.1,ARs.le a _ _ d.2.2⟩
 | gone=>trivial
 | res=>trivial
def Le.ext(c:Below w.heap.size w w'):Le (ctx w g h) (ctx w' g h):=
 ⟨λa _ b=>⟨b.1,(World.cell?_of_block (w:=w) (c.block a.block (World.block_lt_of_cell? w a b.2))).trans b.2⟩,zB _,λ_ h=>h,λ_ _=>rfl,λ_ _ s d=>⟨s,d,.inl ⟨rfl,rfl⟩⟩⟩
def xP(hi:h[i]? =some o):i<h.length:=(zj.1 hi).1
def Ku(hi:h[i]? =some o)(a:o.isRes=false):(ctx w g h).live i:=⟨o,hi,a⟩
def HOk.ext(k:HOk B w g h)(a:Below w.heap.size w w'):HOk B w' g h:=
 ⟨λi o hi=>Ob.ok_le (g:=g) (Ku hi) (k.ok i o hi) (Le.ext a) rfl rfl rfl λb c=>a.block b (k.lt hi c).2,k.apart⟩
def ZX{j:Nat}{p:Ob}(a:g'.β j=g.β j)(b:g'.cur j=g.cur j):p.blk g' j=p.blk g j:=by
 cases p with
 | box ty c=>exact congrArg some a
 | row ty e n st=>exact congrArg Value.ownBlock b
 | mapo _=>exact congrArg some a
 | raw _ _ _ _=>rfl
 | gone=>rfl
 | res=>rfl
def Le.turn(hi:h[i]? =some o)(x:o'.isRes=false)(D:w.grownBy w' (o.blk g i))(B:∀j,j≠i->g'.β j=g.β j)(C:∀j,j≠i->g'.cur j=g.cur j)
    (E:∀b,o'.blk g' i=some b->o.blk g i=some b∨w.heap.size<=b)
    (q:o.isRes=false->g'.β i=g.β i/\∀s,Ob.tok (some o')=some s->∃s0,Ob.tok (some o)=some s0/\((s=s0/\g'.cur i=g.cur i)∨s0<s)):Le (ctx w g h) (ctx w' g' (h.set i o')):=by
 have m:=xP hi
 have d:∀j,j=i->(ctx w g h).live j->o.isRes=false:=λj e ⟨p,f,n⟩=>by
  subst e;rw[hi] at f;injection f with f;subst f;exact n
 refine⟨λa u F=>?_,by simp[ctx],λj ⟨p,k,t⟩=>?_,λj r=>?_,λj r s A=>?_⟩
 ·obtain⟨f,n⟩:=F;have v:=World.block_lt_of_cell? w a n;refine⟨λ⟨j,p,k,l⟩=>?_,?_⟩
  ·by_cases c:j=i
   ·subst c;rw[zr m] at k;injection k with k;subst k;rcases E _ l with z|z
    ·exact f ⟨j,o,hi,z⟩
    ·omega
   ·rw[zf (λe=>c e.symm)] at k;exact f ⟨j,p,k,by rw[ZX (B j c) (C j c)] at l;exact l⟩
  ·exact(World.cell?_of_block (w:=w) (D.block a.block v (λe=>f ⟨i,o,hi,e.symm⟩))).trans n
 ·by_cases c:j=i
  ·subst c;exact⟨o',zr m,x⟩
  ·exact⟨p,by rw[zf (λe=>c e.symm)];exact k,t⟩
 ·by_cases c:j=i
  ·have:=(q (d j c r)).1;rw[c];exact this
  ·exact B j c
 ·by_cases c:j=i
  ·have q:=(q (d j c r)).2;subst c
   have y:Ob.tok (some o')=some s:=by
    have:=A;simp only[ctx,zr m] at this;exact this
   obtain⟨s0,f,n⟩:=q s y;exact⟨s0,by simp only[ctx,hi];exact f,n⟩
  ·refine⟨s,?_,.inl ⟨rfl,C j c⟩⟩;have:=A;simp only[ctx,zf (λe=>c e.symm)] at this;exact this
def HOk.turn(k:HOk B w g h)(hi:h[i]? =some o)(C:w.grownBy w' (o.blk g i))(E:∀j,j≠i->g'.β j=g.β j)(z:∀j,j≠i->g'.cur j=g.cur j)
    (F:∀b,o'.blk g' i=some b->o.blk g i=some b∨w.heap.size<=b) (A:Le (ctx w g h) (ctx w' g' (h.set i o'))) (D:o'.ok B w' (ctx w' g' (h.set i o')) i):HOk B w' g' (h.set i o'):=by
 have s:=xP hi;have l:∀(j:Nat) (p:Ob),j≠i->p.blk g' j=p.blk g j:=λj p x=>ZX (E j x) (z j x);refine⟨λj p a=>?_,λu t p q b v a m c f=>?_⟩
 ·by_cases d:j=i
  ·subst d;rw[zr s] at a;injection a with a;subst a;exact D
  ·rw[zf (λe=>d e.symm)] at a;refine Ob.ok_le (g:=g) (Ku a) (k.ok j p a) A (z j d) rfl rfl λb y=>?_;exact C.block b (k.lt a y).2 λe=>k.apart j i p o b d a hi y e.symm
 ·have key:∀(j:Nat) (p:Ob) (b:Nat),j≠i->h[j]? =some p->p.blk g j=some b->o'.blk g' i≠some b:=λj p b d a c e=>by
   rcases F b e with n|n
   ·exact k.apart j i p o b d a hi c n
   ·have:=(k.lt a c).2;omega
  by_cases n:u=i
  ·subst n;have r:t≠u:=λe=>v e.symm;rw[zr s] at a;injection a with a;subst a;rw[zf (λe=>r e.symm)] at m;rw[l t q r] at f;exact key t q b r m f c
  ·rw[zf (λe=>n e.symm)] at a;rw[l u p n] at c;by_cases r:t=i
   ·subst r;rw[zr s] at m;injection m with m;subst m;exact key u p b n a c f
   ·rw[zf (λe=>r e.symm)] at m;rw[l t q r] at f;exact k.apart u t p q b v a m c f
def ZY{j:Nat}{p:Ob}(a:(h++[o])[j]? =some p):(j<h.length/\h[j]? =some p)∨(j=h.length/\p=o):=by
 rcases Nat.lt_or_ge j h.length with b|b
 ·rw[zH b] at a;exact .inl ⟨b,a⟩
 ·rw[zM b] at a
  have c:j - h.length=0:=by
   rcases Nat.eq_zero_or_pos (j - h.length) with e|e
   ·exact e
   ·rw[zR zE] at a;cases a
  rw[c] at a;injection a with a;exact .inr ⟨zb,a.symm⟩
def Le.more(t:Below w.heap.size w w')(m:∀j,j<h.length->g'.β j=g.β j)(k:∀j,j<h.length->g'.cur j=g.cur j)(x:∀b,o.blk g' h.length=some b->w.heap.size<=b):Le (ctx w g h) (ctx w' g' (h++[o])):=by
 have n:∀j,(ctx w g h).live j->j<h.length:=λj ⟨p,d,_⟩=>xP d;refine⟨λa u q=>?_,by simp[ctx],λj ⟨p,d,f⟩=>⟨p,by rw[zH (xP d)];exact d,f⟩,λj c=>m j (n j c),λj c s v=>?_⟩
 ·obtain⟨r,l⟩:=q;have i:=World.block_lt_of_cell? w a l;refine⟨λ⟨j,p,d,e⟩=>?_,(World.cell?_of_block (w:=w) (t.block a.block i)).trans l⟩;rcases ZY d with⟨c,d⟩|⟨rfl,rfl⟩
  ·exact r ⟨j,p,d,by rw[ZX (m j c) (k j c)] at e;exact e⟩
  ·have:=x _ e;omega
 ·have c:=n j c;refine⟨s,?_,.inl ⟨rfl,k j c⟩⟩;have:=v;simp only[ctx,zH c] at this;exact this
def HOk.more(k:HOk B w g h)(D:Below w.heap.size w w')(C:∀j,j<h.length->g'.β j=g.β j)(v:∀j,j<h.length->g'.cur j=g.cur j)
    (l:∀b,o.blk g' h.length=some b->w.heap.size<=b) (x:Le (ctx w g h) (ctx w' g' (h++[o]))) (A:o.ok B w' (ctx w' g' (h++[o])) h.length):HOk B w' g' (h++[o]):=by
 have c:∀(j:Nat) (p:Ob),j<h.length->p.blk g' j=p.blk g j:=λj p n=>ZX (C j n) (v j n);refine⟨λj p f=>?_,λt r p q b m f u d a=>?_⟩
 ·rcases ZY f with⟨n,f⟩|⟨rfl,rfl⟩
  ·exact Ob.ok_le (g:=g) (Ku f) (k.ok j p f) x (v j n) rfl rfl λb y=>D.block b (k.lt f y).2
  ·exact A
 ·rcases ZY f with⟨z,i⟩|⟨rfl,rfl⟩
  ·rw[c t p z] at d;rcases ZY u with⟨s,e⟩|⟨rfl,rfl⟩
   ·rw[c r q s] at a;exact k.apart t r p q b m i e d a
   ·have:=l b a;have:=(k.lt i d).2;omega
  ·rcases ZY u with⟨s,e⟩|⟨rfl,rfl⟩
   ·rw[c r q s] at a;have:=l b d;have:=(k.lt e a).2;omega
   ·exact m rfl
def Kv(n:Nat):Ob->Bool
 | .box _ a=>qN n a
 | .row _ _ xs _=>jh n xs
 | .mapo es=>es.all λx=>x.1.lt n && x.2.lt n
 | .raw _ _ b _=>qN n b
 | .gone | .res=>true
def Zs(n:Nat):∀(a b:List AV),qN n a=true->qN n b=true->qN n (a++b)=true
 | [],_,_,h=>h
 | x::a,b,h,k=>by
   have h:x.lt n=true/\qN n a=true:=(by simpa [qN] using h);simp[qN,h.1,Zs n a b h.2 k]
def yL(n:Nat):∀(xs:List (List AV)),jh n xs=true->qN n xs.flatten=true
 | [],_=>rfl
 | r::rs,h=>by
   have h:qN n r=true/\jh n rs=true:=(by simpa [jh] using h);exact Zs n r _ h.1 (yL n rs h.2)
def wW(w:World)(g:Gh)(h L:List Ob):Less h.length (ctx w g (h++L)) (ctx w g h):=
 { rd:=λa u b=>⟨λ⟨j,p,d,e⟩=>b.1 ⟨j,p,by rw[zH (xP d)];exact d,e⟩,b.2⟩
   sz:=rfl
   live:=λi hi ⟨o,c,f⟩=>⟨o,by rw[zH hi] at c;exact c,f⟩
   β:=λ_ _=>rfl
   tok:=λi hi=>by show Ob.tok _=Ob.tok _;rw[zH hi]
   cur:=λ_ _=>rfl }
def MapRel.less{n:Nat}{c c':Ctx}(h:Less n c c'):∀(l:List (AV × AV)) (es:List MapEntry),(l.all λx=>x.1.lt n && x.2.lt n)=true->MapRel c l es->MapRel c' l es
 | [],_,_,e=>e
 | (a,b)::r,_,d,⟨e,q,f,i,g,j⟩=>by
   simp only[List.all_cons,zi] at d;exact⟨e,q,f,AR.less h _ _ d.1.1 i,AR.less h _ _ d.1.2 g,MapRel.less h r q d.2 j⟩
def HOk.take{L:List Ob}(k:HOk B w g (h++L))(t:∀o∈h,Kv h.length o=true):HOk B w g h:=by
 have up:∀(j:Nat) (p:Ob),h[j]? =some p->(h++L)[j]? =some p:=λj p m=>by rw[zH (xP m)];exact m
 refine⟨λi o hi=>?_,λi j o p b r hi y=>k.apart i j o p b r (up i o hi) (up j p y)⟩;have c:=k.ok i o (up i o hi);have a:=t o (ja hi);have q:=wW w g h L;cases o with
 | box ty D=>
   obtain⟨d,vs,n,f⟩:=c;exact⟨d,vs,n,ARs.less q _ _ a f⟩
 | row ty e xs st=>
   obtain⟨d,v,cells,n,f⟩:=c;exact⟨d,v,cells,n,ARs.less q _ _ (yL _ _ a) f⟩
 | mapo l=>
   obtain⟨d,vs,k,s,n,m,f,z⟩:=c;refine⟨d,vs,k,s,n,m,MapRel.less q _ _ ?_ f,z⟩;have a:(l.all λx=>x.1.lt h.length && x.2.lt h.length)=true:=a;rw[zY] at a⊢;exact λx u=>a x (m.mem_iff.1 u)
 | raw l o A C=>exact⟨c.1,c.2.1,ARs.less q _ _ a c.2.2⟩
 | gone=>trivial
 | res=>trivial
def ZZ(φ:Nat->Ob)(i:Nat)(o:Ob):Ob:=if o.isRes then φ i else o
def fill(φ:Nat->Ob)(h:List Ob):List Ob:=h.mapIdx (ZZ φ)
def Upto(φ:Nat->Ob)(n:Nat):Prop:=∀i,n<=i->φ i= .res
def Upto.mono{φ:Nat->Ob}{n m:Nat}(k:Upto φ n)(h:n<=m):Upto φ m:=λi hi=>k i (Nat.le_trans h hi)
variable {φ:Nat->Ob}
def jH:(fill φ h).length=h.length:=by simp[fill]
def kL:(fill φ h)[i]? =h[i]?.map (ZZ φ i):=by simp[fill]
def jD(hi:h[i]? =some o)(a:o.isRes=false):(fill φ h)[i]? =some o:=by
 rw[kL,hi];simp[ZZ,a]
def ko(c:o.isRes=false):fill φ (h.set i o)=(fill φ h).set i o:=by
 apply qz;intro j;rw[kL];by_cases a:i=j
 ·subst a;by_cases b:i<h.length
  ·rw[zr b,zr (by rw[jH];exact b)];simp[ZZ,c]
  ·rw[zR zE,zR (by simp[jH];omega)];rfl
 ·rw[zf a,zf a,kL]
def wh{L:List Ob}(b:Upto φ h.length):fill φ (h++L)=fill φ h++L:=by
 apply qz;intro j;rw[kL];by_cases a:j<h.length
 ·rw[zH a,zH (by rw[jH];exact a),kL]
 ·rw[zM zb,zM (by rw[jH];omega),jH];cases d:L[j - h.length]? with
  | none=>rfl
  | some o=>
    simp only[Option.map_some,ZZ];split
    ·rename_i c;rw[b j zb];cases o<;>first|rfl|cases c
    ·rfl
def XI:fill (λ_=> .res) h=h:=by
 apply qz;intro j;rw[kL];cases h[j]? with
 | none=>rfl
 | some o=>simp only[Option.map_some,ZZ];cases o<;>rfl
def ResK(h h':List Ob):Prop:=∀i:Nat,h[i]? =some Ob.res->h'[i]? =some Ob.res
def ResK.refl:ResK h h:=λ_ k=>k
def ResK.trans{h'':List Ob}(a:ResK h h')(b:ResK h' h''):ResK h h'':=λi k=>b i (a i k)
def qX(hi:h[i]? =some o)(b:o.isRes=false):ResK h (h.set i o'):=λj a=>by
 by_cases e:i=j
 ·subst e;rw[hi] at a;injection a with a;subst a;cases b
 ·rw[zf e];exact a
def jp{L:List Ob}:ResK h (h++L):=λj a=>by
 rw[zH (zj.1 a).1];exact a
end
inductive K where
 | int (k:IntKind)|bool|str|slice (e:TypeId)|struct (fs:List (Nat × TypeId))|arr (n:Nat) (e:TypeId)|ptr (e:TypeId)|mapk (k e:TypeId)|other
structure Ty where
 ok:Bool
 agg:Bool
 sz:Nat
 bytes:Nat
 zero:Option (List Value)
 one:Bool
 kind:K
def YN:TypeDesc->Bool
 | .struct _ | .array _ _=>true
 | _=>false
def kOf:TypeDesc->K
 | .int k=> .int k
 | .bool=> .bool
 | .string=> .str
 | .slice e=> .slice e
 | .struct a=> .struct (a.toList.map λf=>(f.offset,f.type))
 | .array n e=> .arr n e
 | .pointer e=> .ptr e
 | .map k e=> .mapk k e
 | _=> .other
def kTa:Option Value->Bool
 | some v=>v.oneCell'
 | none=>false
def zF(P:Program)(t:TypeId):Ty:=
 match P.underlying t,P.info? t with
 | some d,some i=>⟨true,YN d,i.size,i.bytes,i.zero.map λv=>v.cells.toList,kTa i.zero,kOf d⟩
 | _,_=>⟨false,false,0,0,none,false,.other⟩
def qS{P:Program}{t:TypeId}(h:(zF P t).ok=true):∃d i,P.underlying t=some d/\P.info? t=some i/\zF P t=⟨true,YN d,i.size,i.bytes,i.zero.map λv=>v.cells.toList,kTa i.zero,kOf d⟩:=by
 cases a:P.underlying t with
 | none=>rw[zF,a] at h;exact absurd h zh
 | some d=>
   cases hi:P.info? t with
   | none=>rw[zF,a,hi] at h;exact absurd h zh
   | some i=>exact⟨d,i,rfl,rfl,by rw[zF,a,hi]⟩
def nth:List AV->Nat->AV
 | [],_=> .bad
 | a::_,0=>a
 | _::r,n+1=>nth r n
def cut:List AV->Nat->Nat->Option (List AV)
 | _,0,0=>some []
 | [],_,_=>none
 | a::r,0,n+1=>(cut r 0 n).map (a:: ·)
 | _::r,k+1,n=>cut r k n
def lay:List AV->Nat->List AV->Option (List AV)
 | b,0,[]=>some b
 | [],_,_=>none
 | _::r,0,v::vs=>(lay r 0 vs).map (v:: ·)
 | a::r,k+1,vs=>(lay r k vs).map (a:: ·)
def ofV:Value->AV
 | .agg a=> .ag (a.toList.map .v)
 | x=> .v x
def ev(T:Nat->AV):Operand->AV
 | .tmp i=>T i
 | .const x=>ofV x
 | .func f=> .fn (.func f) [] []
 | .global _=> .bad
def AV.one:AV->Bool
 | .v x=>x.oneCell'
 | .ag _ | .tup _ | .bad=>false
 | _=>true
def AV.cells:AV->Option (List AV)
 | .ag b=>if b.all AV.one then some b else none
 | .tup _ | .bad=>none
 | .v x=>if x.oneCell' then some [.v x] else none
 | a=>some [a]
def part(a:List AV)(k:Nat)(agg:Bool)(n:Nat):Option AV:=
 if agg then(cut a k n).map .ag else if k<a.length then some (nth a k) else none
def eOf(h:List Ob):AV->Option Nat
 | .sl e _=>some e
 | .tl id _=>match h[id]? with
   | some (.row _ e _ _)=>some e
   | _=>none
 | .vw a e _ _=>(eOf h a).bind λb=>if b=e then some e else none
 | _=>none
def zI(h:List Ob):AV->Option (List (List AV))
 | .sl _ xs=>some xs
 | .tl id st=>match h[id]? with
   | some (.row _ _ xs s)=>if s=st then some xs else none
   | _=>none
 | .vw a e i n=>(zI h a).bind λxs=>if i+n<=xs.length/\(n=0∨eOf h a=some e) then some ((xs.drop i).take n) else none
 | .v (.slice none 0 _)=>some []
 | .em=>some []
 | _=>none
section
variable {c:Ctx}
def wz:∀ {aZ:List AV} {vs:List Value},ARs c aZ vs->aZ.length=vs.length
 | [],vs,e=>by have e:vs=[]:=e;rw[e];rfl
 | a::aZ,vs,⟨v,r,b,_,d⟩=>by rw[b];simp[wz d]
def wX:∀ {aZ:List AV} {vs:List Value},ARs c aZ vs->∀i,i<aZ.length->∃u,vs[i]? =some u/\AR c (nth aZ i) u
 | a::aZ,vs,⟨v,r,b,e,d⟩,0,_=>⟨v,by rw[b];rfl,e⟩
 | a::aZ,vs,⟨v,r,b,e,d⟩,i+1,hi=>by
   obtain⟨u,g,f⟩:=wX d i (by simpa using hi);exact⟨u,by rw[b];exact g,f⟩
def Jc:∀ {aZ:List AV} {i:Nat} {a:AV},aZ[i]? =some a->nth aZ i=a
 | [],_,_,h=>by cases h
 | x::aZ,0,a,h=>by injection h
 | x::aZ,i+1,a,h=>Jc (aZ:=aZ) (i:=i) h
def wA:∀ {aZ:List AV} {i:Nat},i<aZ.length->aZ[i]? =some (nth aZ i)
 | x::aZ,0,_=>rfl
 | x::aZ,i+1,h=>wA (aZ:=aZ) (i:=i) (by simpa using h)
def QL:∀(vs:List Value),ARs c (vs.map .v) vs
 | []=>rfl
 | v::r=>⟨v,r,rfl,rfl,QL r⟩
def yj:∀ {aZ d:List AV} {b vs:List Value},ARs c aZ b->ARs c d vs->ARs c (aZ++d) (b++vs)
 | [],d,b,vs,e,h=>by have e:b=[]:=e;subst e;exact h
 | a::aZ,d,b,vs,⟨u,r,f,i,g⟩,h=>by subst f;exact⟨u,r++vs,rfl,i,yj g h⟩
def vca(x:Value):AR c (ofV x) x:=by
 unfold ofV;split
 ·exact⟨_,rfl,QL _⟩
 ·rfl
def Kw:∀ {aZ:List AV} {vs:List Value},ARs c aZ vs->∀(k n:Nat) {rs:List AV},cut aZ k n=some rs->ARs c rs ((vs.drop k).take n)/\k+n<=vs.length/\rs.length=n
 | [],vs,e,0,0,rs,h=>by have e:vs=[]:=e;cases h;rw[e];exact⟨rfl,zB _,rfl⟩
 | [],_,_,k+1,n,rs,h=>by cases h
 | [],_,_,0,n+1,rs,h=>by cases h
 | a::aZ,vs,_,0,0,rs,h=>by cases h;simp[ARs]
 | a::aZ,vs,⟨u,r,f,j,g⟩,0,n+1,rs,h=>by
   unfold cut at h;cases d:cut aZ 0 n with
   | none=>rw[d] at h;cases h
   | some q=>
     rw[d] at h;injection h with h;subst h;subst f;obtain⟨i,l,b⟩:=Kw g 0 n d;exact⟨⟨u,_,rfl,j,i⟩,zE,by simp[b]⟩
 | a::aZ,vs,⟨u,r,f,j,g⟩,k+1,n,rs,h=>by
   unfold cut at h;subst f;obtain⟨i,l,b⟩:=Kw g k n h;exact⟨i,zE,b⟩
def Z0:∀ {aZ:List AV} {vs:List Value},ARs c aZ vs->∀(k:Nat) {d rs:List AV} {b:List Value},ARs c d b->lay aZ k d=some rs->ARs c rs (vs.take k++b++vs.drop (k+b.length))/\k+b.length<=vs.length
 | aZ,vs,h,0,[],rs,b,g,e=>by
   have g:b=[]:=g;subst g;have:lay aZ 0 []=some aZ:=(by cases aZ<;>rfl);rw[this] at e;cases e;exact⟨by simpa using h,zh⟩
 | [],vs,e,k+1,d,rs,b,g,h=>by cases h
 | [],vs,e,0,n::d,rs,b,g,h=>by cases h
 | a::aZ,vs,⟨u,r,j,p,l⟩,0,n::d,rs,b,⟨x,s,v,i,m⟩,h=>by
   unfold lay at h;cases f:lay aZ 0 d with
   | none=>rw[f] at h;cases h
   | some q=>
     rw[f] at h;injection h with h;subst h;subst j;subst v;obtain⟨o,t⟩:=Z0 l 0 m f;exact⟨⟨x,_,rfl,i,by simpa using o⟩,zE⟩
 | a::aZ,vs,⟨u,r,j,p,l⟩,k+1,d,rs,b,g,h=>by
   unfold lay at h;cases f:lay aZ k d with
   | none=>rw[f] at h;cases h
   | some q=>
     rw[f] at h;injection h with h;subst h;subst j;obtain⟨o,t⟩:=Z0 l k g f;refine⟨⟨u,_,rfl,p,?_⟩,zE⟩;rw[show k+1+b.length=(k+b.length)+1 by omega];exact o
def Jd:∀ {aZ:List AV} {k:Nat} {c rs:List AV},lay aZ k c=some rs->rs.length=aZ.length
 | aZ,0,[],rs,h=>by
   have:lay aZ 0 []=some aZ:=(by cases aZ<;>rfl);rw[this] at h;cases h;rfl
 | [],k+1,c,rs,h=>by cases h
 | [],0,n::c,rs,h=>by cases h
 | a::aZ,0,n::c,rs,h=>by
   unfold lay at h;cases b:lay aZ 0 c with
   | none=>rw[b] at h;cases h
   | some q=>rw[b] at h;injection h with h;subst h;simp[Jd b]
 | a::aZ,k+1,c,rs,h=>by
   unfold lay at h;cases b:lay aZ k c with
   | none=>rw[b] at h;cases h
   | some q=>rw[b] at h;injection h with h;subst h;simp[Jd b]
def Vd:∀ {a:AV} {u:Value},a.one=true->AR c a u->u.oneCell'=true/\u.cells= #[u]
 | .v x,u,h,e=>by
   have e:u=x:=e;subst e;refine⟨h,?_⟩;cases u<;>first|rfl|cases h
 | .sl _ _,u,_,⟨A,k,e,_⟩=>by subst e;exact⟨rfl,rfl⟩
 | .ptr _ _,u,_,⟨_,e⟩=>by subst e;exact⟨rfl,rfl⟩
 | .mp _,u,_,⟨_,e⟩=>by subst e;exact⟨rfl,rfl⟩
 | .ep _ _ _ _,u,_,⟨A,m,b,_,_,e⟩=>by subst e;exact⟨rfl,rfl⟩
 | .em,u,_,⟨A,k,e⟩=>by subst e;exact⟨rfl,rfl⟩
 | .vw _ _ _ _,u,_,⟨A,m,b,f,k,_,_,_,e,_⟩=>by subst e;exact⟨rfl,rfl⟩
 | .fn _ _ _,u,_,⟨d,vs,e,_⟩=>by subst e;exact⟨rfl,rfl⟩
 | .tl id st,u,_,⟨⟨A,n,k,e⟩,_⟩=>by subst e;exact⟨rfl,rfl⟩
def Qm:∀ {aZ:List AV} {vs:List Value},aZ.all AV.one=true->ARs c aZ vs->∀v∈vs,v.oneCell'=true
 | [],vs,_,e,v,b=>by have e:vs=[]:=e;rw[e] at b;cases b
 | a::aZ,vs,h,⟨u,r,d,g,f⟩,v,b=>by
   rw[List.all_cons,zi] at h;subst d;rcases zK.1 b with rfl|b
   ·exact(Vd h.1 g).1
   ·exact Qm h.2 f v b
def Jr{a:AV}{u:Value}{g:List AV}(h:a.cells=some g)(m:AR c a u):ARs c g u.cells.toList/\(∀v∈u.cells.toList,v.oneCell'=true):=by
 have key:a.one=true->g=[a]->ARs c g u.cells.toList/\(∀v∈u.cells.toList,v.oneCell'=true):=λd n=>by
  obtain⟨l,j⟩:=Vd d m;rw[n,j];exact⟨⟨u,[],rfl,m,rfl⟩,by simpa using l⟩
 cases a with
 | v x=>
   simp only[AV.cells] at h;split at h
   ·rename_i d;injection h with h;exact key d h.symm
   ·cases h
 | sl e xs=>injection h with h;exact key rfl h.symm
 | tl i s=>injection h with h;exact key rfl h.symm
 | ptr i o=>injection h with h;exact key rfl h.symm
 | em=>injection h with h;exact key rfl h.symm
 | vw a e i k=>injection h with h;exact key rfl h.symm
 | ep a e i k=>injection h with h;exact key rfl h.symm
 | mp i=>injection h with h;exact key rfl h.symm
 | fn f a b=>injection h with h;exact key rfl h.symm
 | ag aZ=>
   simp only[AV.cells] at h;split at h
   ·rename_i d;injection h with h;subst h;obtain⟨vs,l,j⟩:=m;subst l;exact⟨j,Qm d j⟩
   ·cases h
 | tup _=>cases h
 | bad=>cases h
def Kx(A:Option Addr)(e:Nat):∀(xs:List (List AV)) (a i:Nat) (r:List AV),ARows c A e a xs->xs[i]? =some r->r.length=e/\ACells c A ((a+i)*e) r
 | r::rs,a,0,_,⟨b,_⟩,h=>by injection h with h;subst h;exact b
 | r::rs,a,i+1,q,⟨_,d⟩,hi=>by
   have:=Kx A e rs (a+1) i q d hi;rw[show a+1+i=a+(i+1) by omega] at this;exact this
def Ve(A:Option Addr):∀(aZ:List AV) (k0 k:Nat) (a:AV),ACells c A k0 aZ->aZ[k]? =some a->∃b u,A=some b/\c.rd (b.add (k0+k)) u/\AR c a u
 | a::aZ,k0,0,_,⟨d,_⟩,h=>by injection h with h;subst h;exact d
 | a::aZ,k0,k+1,q,⟨_,f⟩,e=>by
   have:=Ve A aZ (k0+1) k q f e;rw[show k0+1+k=k0+(k+1) by omega] at this;exact this
def wB{α:Type}{e:Nat}:∀ {xs:List (List α)},(∀x∈xs,x.length=e)->∀ {i k:Nat} {r:List α} {a:α},xs[i]? =some r->r[k]? =some a->xs.flatten[i*e+k]? =some a
 | x::xs,h,0,k,r,a,hi,b=>by
   injection hi with hi;subst hi;rw[List.flatten_cons,zH (by have:=(zj.1 b).1;omega)];simpa using b
 | x::xs,h,i+1,k,r,a,hi,b=>by
   have c:x.length=e:=h x zh;have:=wB (xs:=xs) (λy d=>h y (by simp[d])) (i:=i) hi b;rw[List.flatten_cons,zM (by rw[c,Nat.succ_mul];omega),c];rw[show(i+1)*e+k - e=i*e+k by rw[Nat.succ_mul];omega];exact this
def xQ{α:Type}{e:Nat}:∀ {xs:List (List α)},(∀x∈xs,x.length=e)->xs.flatten.length=xs.length*e
 | [],_=>zh
 | x::xs,h=>by
   rw[List.flatten_cons,zp,xQ (λy a=>h y (by simp[a])),h x zh,List.length_cons,Nat.succ_mul];omega
end
structure RowsAt (w:World) (c:Ctx) (e:Nat) (xs:List (List AV)) (A:Option Addr):Prop where
 len:∀r∈xs,r.length=e
 cell:∀(i k:Nat) (r:List AV) (a:AV),xs[i]? =some r->r[k]? =some a->∃ad u,A=some ad/\w.cell? (ad.add (i*e+k))=some u/\AR c a u
section
variable {B:Nat} {w:World} {g:Gh} {h:List Ob}
def ZB{id st:Nat}{u:Value}(a:AR (ctx w g h) (.tl id st) u){ty e:Nat}{xs:List (List AV)}(b:h[id]? =some (.row ty e xs st)):u=g.cur id:=
 (a.2.2 st (by simp[ctx,b,Ob.tok])).2 rfl
def vc{D:Nat}{e:TypeId}{size:Nat}{v:Value}{k:Nat}{xs:List Value}(h:w.ownsRow D e size v k xs):∃A a,v= .slice A k a/\k<=a:=by
 rcases h.2 with⟨c,f⟩|⟨g,cap,cur,b,_,_,d,_⟩
 ·subst f;exact⟨none,0,c,zB _⟩
 ·exact⟨_,cap,b,d⟩
def rows_ok(R:HOk B w g h):∀(a:AV) {u:Value} {xs:List (List AV)},AR (ctx w g h) a u->zI h a=some xs->
    ∃A k,u= .slice A xs.length k/\xs.length<=k/\(∀e,eOf h a=some e->RowsAt w (ctx w g h) e xs A)/\(eOf h a=none->xs=[])
 | .sl e ys,u,xs,o,b=>by
   injection b with b;subst b;obtain⟨A,k,y,z,t⟩:=o;refine⟨A,k,y,z,λX c=>?_,λc=>by cases c⟩;injection c with c;subst c;refine⟨λr b=>?_,λi k r a hi E=>?_⟩
   ·obtain⟨i,hi,l⟩:=List.mem_iff_getElem.1 b;exact(Kx A e _ 0 i r t (by rw[zg hi,l])).1
   ·have:=Kx A e _ 0 i r t hi;obtain⟨U,u,l,D,G⟩:=Ve A r _ k a this.2 E;rw[Nat.zero_add] at D;exact⟨U,u,l,D.2,G⟩
 | .tl id st,u,xs,o,b=>by
   simp only[zI] at b;split at b
   ·rename_i ty e ys s I;split at b
    ·rename_i hs;injection b with b;subst hs;subst b;have hc:=ZB o I;obtain⟨h0,y,cells,z,t⟩:=R.ok id _ I;obtain⟨A,J,l,D⟩:=vc z;refine⟨A,J,hc.trans l,D,λX c=>?_,λc=>by simp[eOf,I] at c⟩;simp only[eOf,I,Option.some.injEq] at c;subst c;refine⟨y,λi k r a hi E=>?_⟩;have W:=wB y hi E;obtain⟨u,Q,C⟩:=wX t _ (zj.1 W).1;rw[Jc W] at C;rcases z.2 with⟨G,V⟩|⟨S,cap,cur,hv,_⟩
     ·have:=(zj.1 hi).1;omega
     ·have Y:A=some ⟨S,0,none⟩:=by
       have p:g.cur id= .slice A ys.length J:=l;have F:g.cur id=_:=hv;rw[p] at F;injection F
      refine⟨_,u,Y,?_,C⟩;have p:g.cur id= .slice A ys.length J:=l;exact World.ownsRow.cells z (g:=S) (by show(g.cur id).ownBlock=_;rw[p,Y];rfl) _ u Q
    ·cases b
   ·cases b
 | .vw a e i n,u,xs,o,b=>by
   have Z:= @rows_ok R a;obtain⟨A,m,J,A',k,y,z,t,h4,h5,_⟩:=o;simp only[zI] at b;cases q:zI h a with
   | none=>rw[q] at b;cases b
   | some ys=>
     rw[q] at b;simp only[Option.bind_some] at b;split at b
     ·rename_i M;injection b with b;subst b;obtain⟨A0,k0,l,D,G,V⟩:=Z y q;injection l with e5 e6 e7;subst e5 e6 e7;have f:((ys.drop i).take n).length=n:=zE;refine⟨A',k,by rw[f];exact h4,by rw[f];exact t,λX c=>?_,λc=>?_⟩
      ·simp only[eOf] at c;cases d:eOf h a with
       | none=>rw[d] at c;cases c
       | some H=>
         rw[d] at c;simp only[Option.bind_some] at c;split at c
         ·rename_i N;injection c with c;subst N c;have T:=G _ d;refine⟨λr b=>T.len r (List.mem_of_mem_drop (List.mem_of_mem_take b)),λj k r a L E=>?_⟩
          have K:j<n:=by
           have:=(zj.1 L).1;rw[f] at this;exact this
          rw[jZ,if_pos K,List.getElem?_drop] at L;obtain⟨U,u,z1,z2,z3⟩:=T.cell (i+j) k r a L E;obtain⟨ζ,z4,z5⟩:=h5 zb;rw[z1] at z4;injection z4 with z4;subst z4;refine⟨_,u,z5,?_,z3⟩;rw[Addr.add_add,show i*H+(j*H+k)=(i+j)*H+k by rw[Nat.add_mul];omega];exact z2
         ·cases c
      ·simp only[eOf] at c;cases O:(ys.drop i).take n with
       | nil=>rfl
       | cons r rs=>
         exfalso;have b:r∈ys:=List.mem_of_mem_drop (List.mem_of_mem_take (by rw[O];simp:r∈(ys.drop i).take n));cases d:eOf h a with
         | none=>rw[V d] at b;cases b
         | some H=>
           rw[d] at c;simp only[Option.bind_some] at c;split at c
           ·cases c
           ·rename_i P;rcases M.2 with h0|h0
            ·rw[h0] at O;simp at O
            ·rw[d] at h0;injection h0 with h0;exact P h0
     ·cases b
 | .v x,u,xs,o,b=>by
   have o:u=x:=o;subst o;unfold zI at b;split at b
   ·rename_i heq;cases heq
   ·rename_i heq;cases heq
   ·rename_i heq;cases heq
   ·rename_i k heq;injection b with b;subst b;injection heq with heq;exact⟨none,k,heq,Nat.zero_le _,λe c=>by simp[eOf] at c,λ_=>rfl⟩
   ·rename_i heq;cases heq
   ·cases b
 | .em,u,xs,⟨A,k,e⟩,b=>by
   injection b with b;subst b;exact⟨_,k,e,Nat.zero_le _,λe c=>by simp[eOf] at c,λ_=>rfl⟩
 | .ptr _ _,_,_,_,b | .ep _ _ _ _,_,_,_,b | .mp _,_,_,_,b | .ag _,_,_,_,b | .tup _,_,_,_,b | .fn _ _ _,_,_,_,b | .bad,_,_,_,b=>by cases b
end
structure Good (B:Nat) (w:World) (g:Gh) (h:List Ob) (w':World) (g':Gh) (h':List Ob):Prop where
 ok:HOk B w' g' h'
 le:Le (ctx w g h) (ctx w' g' h')
 below:Below B w w'
 size:B<=w'.heap.size
section
variable {B:Nat} {w w' w'':World} {g g' g'':Gh} {h h' h'':List Ob} {P:Program}
def Good.refl(a:HOk B w g h)(hB:B<=w.heap.size):Good B w g h w g h:=⟨a,Le.refl _,Below.refl _ _,hB⟩
def Good.trans(a:Good B w g h w' g' h')(b:Good B w' g' h' w'' g'' h''):Good B w g h w'' g'' h'':=
 ⟨b.ok,a.le.trans b.le,a.below.trans b.below,b.size⟩
def Good.drew(b:HOk B w g h)(hB:B<=w.heap.size):Good B w g h w.drew g h:=
 have a:∀D,Below D w w.drew:=λ_=>⟨rfl,rfl,rfl,zB _,λ_ _=>rfl⟩
 ⟨b.ext (a _),Le.ext (a _),a _,hB⟩
def PartAt(w:World)(c:Ctx)(b:Addr)(d:List AV):Prop:=∀(k:Nat) (a:AV),d[k]? =some a->∃u,w.cell? (b.add k)=some u/\AR c a u
def Ky:∀ {aZ:List AV} {k n:Nat} {rs:List AV},cut aZ k n=some rs->∀j,j<n->aZ[k+j]? =rs[j]? /\j<rs.length
 | _,0,0,_,_,j,b=>zb
 | [],k+1,n,rs,h,_,_=>by cases h
 | [],0,n+1,rs,h,_,_=>by cases h
 | a::aZ,0,n+1,rs,h,j,b=>by
   unfold cut at h;cases c:cut aZ 0 n with
   | none=>rw[c] at h;cases h
   | some q=>
     rw[c] at h;injection h with h;subst h;cases j with
     | zero=>simp
     | succ j=>
       have:=Ky c j zb;simp only[Nat.zero_add,List.getElem?_cons_succ,List.length_cons] at this⊢;exact⟨this.1,zb⟩
 | a::aZ,k+1,n,rs,h,j,b=>by
   unfold cut at h;have:=Ky h j b;rw[show k+1+j=(k+j)+1 by omega,List.getElem?_cons_succ];exact this
def Je:∀ {aZ:List AV} {k n:Nat} {rs:List AV},cut aZ k n=some rs->rs.length=n
 | aZ,0,0,_,h=>by
   have:cut aZ 0 0=some []:=(by cases aZ<;>rfl);rw[this] at h;cases h;rfl
 | [],k+1,n,rs,h=>by cases h
 | [],0,n+1,rs,h=>by cases h
 | a::aZ,0,n+1,rs,h=>by
   unfold cut at h;cases b:cut aZ 0 n with
   | none=>rw[b] at h;cases h
   | some q=>rw[b] at h;injection h with h;subst h;simp[Je b]
 | a::aZ,k+1,n,rs,h=>by unfold cut at h;exact Je h
def qDa{c:Ctx}:∀ {aZ:List AV} {vs:List Value},aZ.length=vs.length->(∀(k:Nat) (a:AV),aZ[k]? =some a->∃u:Value,vs[k]? =some u/\AR c a u)->ARs c aZ vs
 | [],[],_,_=>rfl
 | [],_::_,h,_=>by cases h
 | _::_,[],h,_=>by cases h
 | a::aZ,v::vs,f,h=>by
   obtain⟨u,d,g⟩:=h 0 a rfl;injection d with d;subst d;exact⟨_,_,rfl,g,qDa (by simpa using f) λk b e=>h (k+1) b e⟩
def PartAt.vals{c:Ctx}{g:Addr}:∀ {d:List AV},PartAt w c g d->∃vs:List Value,ARs c d vs/\∀(j:Nat) (u:Value),vs[j]? =some u->w.cell? (g.add j)=some u:=by
 intro d n
 have:∀k,∃u,k<d.length->(w.cell? (g.add k)=some u/\AR c (nth d k) u):=λk=>by
  by_cases e:k<d.length
  ·obtain⟨u,m,o⟩:=n k _ (wA e);exact⟨u,λ_=>⟨m,o⟩⟩
  ·exact⟨undef,λh=>absurd h e⟩
 obtain⟨f,l⟩:=Classical.axiomOfChoice this;refine⟨(List.range d.length).map f,qDa zh λk a e=>?_,λj u i=>?_⟩
 ·have b:=(zj.1 e).1;refine⟨f k,by simp[b],?_⟩;have:=(l k b).2;rw[Jc e] at this;exact this
 ·by_cases b:j<d.length
  ·simp[b] at i;subst i;exact(l j b).1
  ·have:j<((List.range d.length).map f).length:=(zj.1 i).1;simp at this;omega
def load_part{c:Ctx}{t:TypeId}(C:(zF P t).ok=true){p:Addr}{q:List AV}(z:PartAt w c p q){k:Nat}{x:AV}(b:part q k (zF P t).agg (zF P t).sz=some x):
    ∃v,(loadVar t (p.add k)).run P w= .ok v w/\AR c x v:=by
 obtain⟨d,i,D,hi,e⟩:=qS C;rw[e] at b;simp only[part] at b
 have l:∀n rs,cut q k n=some rs->PartAt w c (p.add k) rs:=λn rs g j a A=>by
  have r:=Je g;have B:=(zj.1 A).1;have:=Ky g j zb;obtain⟨u,h,m⟩:=z (k+j) a (this.1.trans A);exact⟨u,by rw[Addr.add_add];exact h,m⟩
 have f:(isAgg t).run P w= .ok (YN d) w:=by
  simp only[isAgg,Sem.run_bind,run_underlying D,Result.andThen_ok];cases d<;>rfl
 have y:(sizeOf t).run P w= .ok i.size w:=by simp[sizeOf,typeInfo,hi]
 split at b
 ·rename_i s;cases g:cut q k i.size with
  | none=>rw[g] at b;cases b
  | some rs=>
    rw[g] at b;injection b with b;subst b;obtain⟨vs,h,m⟩:=(l _ _ g).vals;have o:vs.length=i.size:=(by rw[<-wz h,Je g]);have r:=run_loadCells_list (P:=P) w (p.add k) vs m;rw[o] at r;refine⟨.agg vs.toArray,?_,vs.toArray,rfl,by simpa using h⟩;simp only[loadVar,Sem.run_bind,f,Result.andThen_ok,s,if_true,y,r,Sem.run_pure]
 ·rename_i s;split at b
  ·rename_i E;injection b with b;subst b;obtain⟨u,h,m⟩:=z k _ (wA E);refine⟨u,?_,m⟩;simp only[loadVar,Sem.run_bind,f,Result.andThen_ok,s,if_false,Bool.false_eq_true,run_load,h]
  ·cases b
def Vf(j:HOk B w g h){id:Nat}{ty:TypeId}{c:List AV}(f:h[id]? =some (.box ty c)):PartAt w (ctx w g h) ⟨g.β id,0,none⟩ c:=λk a e=>by
 obtain⟨n,vs,l,i⟩:=j.ok id _ f;obtain⟨u,m,d⟩:=wX i k (zj.1 e).1;rw[Jc e] at d;refine⟨u,?_,d⟩;have b:w.heap[g.β id]? =some (.cells vs ty (0,0)):=l;rw[Addr.add_lit];simp only[World.cell?,b,Nat.zero_add];simpa using m
def yM(w:World)(b:Nat)(vs:Array Value):w.grownBy (w.setRow b vs) (some b):=
 ⟨rfl,rfl,rfl,zh,λk _ a=>setRow_other w b k vs λe=>a (by rw[e])⟩
def turn_box(m:HOk B w g h)(hB:B<=w.heap.size){id:Nat}{ty:TypeId}{o c:List AV}(e:h[id]? =some (.box ty o)){a:Array Value}(p:ARs (ctx w g h) c a.toList):
    Good B w g h (w.setRow (g.β id) a) g (h.set id (.box ty c)):=by
 have i:=yM w (g.β id) a;have d:=Le.turn (g':=g) (o':= .box ty c) e rfl i (λ_ _=>rfl) (λ_ _=>rfl) (λb f=> .inl f) (λ_=>⟨rfl,λs q=>by cases q⟩);obtain⟨l,vs,n,r⟩:=m.ok id _ e;refine⟨m.turn e i (λ_ _=>rfl) (λ_ _=>rfl) (λb f=> .inl f) d ⟨l,a,setRow_heap w _ vs a ty (0,0) n,ARs.le d _ _ p⟩,d,?_,by simpa using hB⟩;exact(Below.refl B w).grown i hB λk j=>by injection j with j;subst j;exact l
def turn_row(r:HOk B w g h)(hB:B<=w.heap.size){id:Nat}{ty e:Nat}{xs xs':List (List AV)}{st:Nat}(n:h[id]? =some (.row ty e xs st))(A:∀x∈xs',x.length=e){v':Value}{cells:List Value}{st':Nat}
    (d:w.grownBy w' (g.cur id).ownBlock) (c:w'.ownsRow B ty e v' xs'.length cells) (z:ARs (ctx w g h) xs'.flatten cells) (q:st'=st/\v'=g.cur id∨st<st') (o:∀b,v'.ownBlock=some b->(g.cur id).ownBlock=some b∨w.heap.size<=b):
    Good B w g h w' ⟨g.β,λj=>if j=id then v' else g.cur j⟩ (h.set id (.row ty e xs' st')):=by
 have t:∀j,j≠id->(if j=id then v' else g.cur j)=g.cur j:=λj v=>if_neg v
 have a:∀b,(Ob.row ty e xs' st').blk ⟨g.β,λj=>if j=id then v' else g.cur j⟩ id=some b->(Ob.row ty e xs st).blk g id=some b∨w.heap.size<=b:=λb u=>by
  simp only[Ob.blk,if_true] at u;exact o b u
 have l:=Le.turn (g':=⟨g.β,λj=>if j=id then v' else g.cur j⟩) (o':= .row ty e xs' st') n rfl d (λ_ _=>rfl) t a (λ_=>⟨rfl,λs m=>by
  injection m with m;subst m;refine⟨st,rfl,?_⟩;rcases q with⟨f,p⟩|f
  ·exact .inl ⟨f,by simp[p]⟩
  ·exact .inr f⟩)
 obtain⟨h0,f,i,p,C⟩:=r.ok id _ n;refine⟨r.turn n d (λ_ _=>rfl) t a l ⟨h0,A,cells,?_,ARs.le l _ _ z⟩,l,?_,Nat.le_trans hB d.size⟩
 ·simp only[ctx,if_true];exact c
 ·exact(Below.refl B w).grown d hB λk y=>(World.ownsRow.lt p k y).1
def more_box(l:HOk B w g h)(hB:B<=w.heap.size){ty:TypeId}{a:List AV}{vs:Array Value}(k:ARs (ctx w g h) a vs.toList):
    Good B w g h (w.alloc (.cells vs ty)) ⟨λj=>if j=h.length then w.heap.size else g.β j,g.cur⟩ (h++[.box ty a])/\AR (ctx (w.alloc (.cells vs ty)) ⟨λj=>if j=h.length then w.heap.size else g.β j,g.cur⟩ (h++[.box ty a])) (.ptr h.length 0) (.pointer (some ⟨w.heap.size,0,none⟩)):=by
 have c:∀D,D<=w.heap.size->Below D w (w.alloc (.cells vs ty)):=λD i=>(Below.refl D w).alloc i _;have e:∀j,j<h.length->(if j=h.length then w.heap.size else g.β j)=g.β j:=λj m=>if_neg zb
 have f:∀b,(Ob.box ty a).blk ⟨λj=>if j=h.length then w.heap.size else g.β j,g.cur⟩ h.length=some b->w.heap.size<=b:=λb c=>by
  simp[Ob.blk] at c;omega
 have d:=Le.more (g:=g) (g':=⟨λj=>if j=h.length then w.heap.size else g.β j,g.cur⟩) (o:= .box ty a) (c _ (zB _)) e (λ_ _=>rfl) f;refine⟨⟨l.more (c _ (zB _)) e (λ_ _=>rfl) f d ⟨by simp[ctx];exact hB,vs,?_,ARs.le d _ _ k⟩,d,c _ hB,zE⟩,⟨.box ty a,zh,rfl⟩,by simp[ctx]⟩;simp only[ctx,if_true];exact heap_alloc_new w _
def more_row(q:HOk B w g h)(hB:B<=w.heap.size){ty e:Nat}(t:0<e){xs:List (List AV)}(p:∀x∈xs,x.length=e){v':Value}{cells:List Value}(st:Nat)
    (c:Below w.heap.size w w') (a:w'.ownsRow B ty e v' xs.length cells) (n:ARs (ctx w g h) xs.flatten cells) (f:∀b,v'.ownBlock=some b->w.heap.size<=b):
    Good B w g h w' ⟨g.β,λj=>if j=h.length then v' else g.cur j⟩ (h++[.row ty e xs st])/\AR (ctx w' ⟨g.β,λj=>if j=h.length then v' else g.cur j⟩ (h++[.row ty e xs st])) (.tl h.length st) v':=by
 have i:∀j,j<h.length->(if j=h.length then v' else g.cur j)=g.cur j:=λj u=>if_neg zb
 have l:∀b,(Ob.row ty e xs st).blk ⟨g.β,λj=>if j=h.length then v' else g.cur j⟩ h.length=some b->w.heap.size<=b:=λb c=>by
  simp only[Ob.blk,if_true] at c;exact f b c
 have d:=Le.more (g:=g) (g':=⟨g.β,λj=>if j=h.length then v' else g.cur j⟩) (o:= .row ty e xs st) c (λ_ _=>rfl) i l;obtain⟨A,m,r,_⟩:=vc a;refine⟨⟨q.more c (λ_ _=>rfl) i l d ⟨t,p,cells,?_,ARs.le d _ _ n⟩,d,c.mono hB,Nat.le_trans hB c.size⟩,⟨A,_,m,r⟩,⟨.row ty e xs st,zh,rfl⟩,λs k=>?_⟩
 ·simp only[ctx,if_true];exact a
 ·simp[ctx,Ob.tok] at k;subst k;exact⟨zB _,λ_=>by simp[ctx]⟩
def make_at(p:HOk B w g h)(hB:B<=w.heap.size){i:Nat}(hi:h[i]? =some .res){o:Ob}(m:o.isRes=false)(a:Below w.heap.size w w')(l:∀j,j≠i->g'.β j=g.β j)(e:∀j,j≠i->g'.cur j=g.cur j)
    (c:∀b,o.blk g' i=some b->w.heap.size<=b) (n:Le (ctx w g h) (ctx w' g' (h.set i o))->o.ok B w' (ctx w' g' (h.set i o)) i):Good B w g h w' g' (h.set i o):=by
 have f:w.grownBy w' ((Ob.res).blk g i):=⟨a.os,a.tape,a.output,a.size,λk q _=>a.block k q⟩;have d:=Le.turn (g':=g') (o':=o) hi m f l e (λb a=> .inr (c b a)) (λh=>by cases h);exact⟨p.turn hi f l e (λb a=> .inr (c b a)) d (n d),d,a.mono hB,Nat.le_trans hB a.size⟩
def box_at(f:HOk B w g h)(hB:B<=w.heap.size){i:Nat}(hi:h[i]? =some .res){ty:TypeId}{a:List AV}{vs:Array Value}(e:ARs (ctx w g h) a vs.toList):
    Good B w g h (w.alloc (.cells vs ty)) ⟨λj=>if j=i then w.heap.size else g.β j,g.cur⟩ (h.set i (.box ty a))/\AR (ctx (w.alloc (.cells vs ty)) ⟨λj=>if j=i then w.heap.size else g.β j,g.cur⟩ (h.set i (.box ty a))) (.ptr i 0) (.pointer (some ⟨w.heap.size,0,none⟩)):=by
 refine⟨make_at f hB hi rfl ((Below.refl _ w).alloc (zB _) _) (λj k=>if_neg k) (λ_ _=>rfl) (λb d=>?_) (λc=>⟨?_,vs,?_,ARs.le c _ _ e⟩),⟨.box ty a,zr (xP hi),rfl⟩,by simp[ctx]⟩
 ·simp[Ob.blk] at d;omega
 ·simp[ctx];exact hB
 ·simp only[ctx,if_true];exact heap_alloc_new w _
def row_at(o:HOk B w g h)(hB:B<=w.heap.size){i:Nat}(hi:h[i]? =some .res){ty e:Nat}(q:0<e){xs:List (List AV)}(n:∀x∈xs,x.length=e){v':Value}{cells:List Value}(st:Nat)
    (c:Below w.heap.size w w') (a:w'.ownsRow B ty e v' xs.length cells) (m:ARs (ctx w g h) xs.flatten cells) (d:∀b,v'.ownBlock=some b->w.heap.size<=b):
    Good B w g h w' ⟨g.β,λj=>if j=i then v' else g.cur j⟩ (h.set i (.row ty e xs st))/\AR (ctx w' ⟨g.β,λj=>if j=i then v' else g.cur j⟩ (h.set i (.row ty e xs st))) (.tl i st) v':=by
 obtain⟨A,k,p,_⟩:=vc a;refine⟨make_at o hB hi rfl c (λ_ _=>rfl) (λj r=>if_neg r) (λb c=>?_) (λl=>⟨q,n,cells,?_,ARs.le l _ _ m⟩),⟨A,_,k,p⟩,⟨.row ty e xs st,zr (xP hi),rfl⟩,λs f=>?_⟩
 ·simp only[Ob.blk,if_true] at c;exact d b c
 ·simp only[ctx,if_true];exact a
 ·simp[ctx,Ob.tok,zr (xP hi)] at f;subst f;exact⟨zB _,λ_=>by simp[ctx]⟩
def more_map(i:HOk B w g h)(hB:B<=w.heap.size):
    Good B w g h (w.alloc (.map #[] 0)) ⟨λj=>if j=h.length then w.heap.size else g.β j,g.cur⟩ (h++[.mapo []])/\AR (ctx (w.alloc (.map #[] 0)) ⟨λj=>if j=h.length then w.heap.size else g.β j,g.cur⟩ (h++[.mapo []])) (.mp h.length) (.map (some w.heap.size)):=by
 have a:∀D,D<=w.heap.size->Below D w (w.alloc (.map #[] 0)):=λD f=>(Below.refl D w).alloc f _;have d:∀j,j<h.length->(if j=h.length then w.heap.size else g.β j)=g.β j:=λj k=>if_neg zb
 have e:∀b,(Ob.mapo []).blk ⟨λj=>if j=h.length then w.heap.size else g.β j,g.cur⟩ h.length=some b->w.heap.size<=b:=λb a=>by
  simp[Ob.blk] at a;omega
 have c:=Le.more (g:=g) (g':=⟨λj=>if j=h.length then w.heap.size else g.β j,g.cur⟩) (o:= .mapo []) (a _ (zB _)) d (λ_ _=>rfl) e;refine⟨⟨i.more (a _ (zB _)) d (λ_ _=>rfl) e c ⟨by simp[ctx];exact hB, #[],0,[],?_,List.Perm.refl _,rfl,List.nodup_nil⟩,c,a _ hB,zE⟩,⟨.mapo [],zh,rfl⟩,by simp[ctx]⟩;simp only[ctx,if_true];exact heap_alloc_new w _
def map_at(d:HOk B w g h)(hB:B<=w.heap.size){i:Nat}(hi:h[i]? =some .res):
    Good B w g h (w.alloc (.map #[] 0)) ⟨λj=>if j=i then w.heap.size else g.β j,g.cur⟩ (h.set i (.mapo []))/\AR (ctx (w.alloc (.map #[] 0)) ⟨λj=>if j=i then w.heap.size else g.β j,g.cur⟩ (h.set i (.mapo []))) (.mp i) (.map (some w.heap.size)):=by
 refine⟨make_at d hB hi rfl ((Below.refl _ w).alloc (zB _) _) (λj a=>if_neg a) (λ_ _=>rfl) (λb c=>?_) (λe=>⟨?_, #[],0,[],?_,List.Perm.refl _,rfl,List.nodup_nil⟩),⟨.mapo [],zr (xP hi),rfl⟩,by simp[ctx]⟩
 ·simp[Ob.blk] at c;omega
 ·simp[ctx];exact hB
 ·simp only[ctx,if_true];exact heap_alloc_new w _
def Js(w:World)(b:Nat)(o:Obj):w.grownBy { w with heap:=w.heap.setIfInBounds b o } (some b):=
 ⟨rfl,rfl,rfl,zh,λk _ a=>Array.getElem?_setIfInBounds_ne (λe=>a (by rw[e]))⟩
def turn_map(n:HOk B w g h)(hB:B<=w.heap.size){id:Nat}{l l2 a:List (AV × AV)}(d:h[id]? =some (.mapo l)){es':Array MapEntry}{k':Nat}(r:l2.Perm a)(q:MapRel (ctx w g h) l2 es'.toList)(o:(es'.toList.map (·.key)).Nodup):
    Good B w g h { w with heap:=w.heap.setIfInBounds (g.β id) (.map es' k') } g (h.set id (.mapo a)):=by
 have i:=Js w (g.β id) (.map es' k');have c:=Le.turn (g':=g) (o':= .mapo a) d rfl i (λ_ _=>rfl) (λ_ _=>rfl) (λb e=> .inl e) (λ_=>⟨rfl,λs t=>by cases t⟩);obtain⟨m,es,k,l0,p,u,v,_⟩:=n.ok id _ d;have f:g.β id<w.heap.size:=(q9.1 p).1;refine⟨n.turn d i (λ_ _=>rfl) (λ_ _=>rfl) (λb e=> .inl e) c ⟨m,es',k',l2,?_,r,MapRel.le c _ _ q,o⟩,c,?_,by simpa using hB⟩
 ·show({ w with heap:=w.heap.setIfInBounds (g.β id) (.map es' k') }:World).heap[g.β id]? =_;simp[f]
 ·exact(Below.refl B w).grown i hB λk j=>by injection j with j;subst j;exact m
end
