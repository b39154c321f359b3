/-
  Joined.
-/
import Derived.Below
import Derived.Laws.AppendOwn
import Derived.Laws.Tables
import Derived.Laws.Cells
import Derived.Laws.Slices
import Derived.Laws.StructEq
import Derived.DataElems
set_option linter.unusedSimpArgs false
set_option linter.unusedVariables false
namespace Go.Proofs.YtigdlmpjijhpaaaGreat.Ax
open Go
inductive AV where
 | v (x:Value)
 | sl (e:Nat) (xs:List (List AV))
 | tl (id st:Nat)
 | em
 | vw (a:AV) (e i n:Nat)
 | ptr (id off:Nat)
 | ep (a:AV) (e i k:Nat)
 | mp (id:Nat)
 | ag (cs:List AV)
 | tup (cs:List AV)
 | fn (f:Fn) (first cs:List AV)
 | bad
structure Ctx where
 rd:Addr->Value->Prop
 n:Nat
 live:Nat->Prop
 β:Nat->Nat
 cur:Nat->Value
 tok:Nat->Option Nat
def Tok (c:Ctx) (id st:Nat) (u:Value):Prop:=c.live id/\∀s,c.tok id=some s->st<=s/\(st=s->u=c.cur id)
mutual
def AR (c:Ctx):AV->Value->Prop
 | .v x,u=>u=x
 | .sl e xs,u=>∃A k,u= .slice A xs.length k/\xs.length<=k/\ARows c A e 0 xs
 | .tl id st,u=>(∃A n k,u= .slice A n k)/\Tok c id st u
 | .em,u=>∃A k,u= .slice (some A) 0 k
 | .vw a e i n,u=>∃A m g d k,AR c a (.slice A m g)/\i+n<=m/\n<=k/\u= .slice d n k/\(0<n->∃h,A=some h/\d=some (h.add (i*e)))/\(i=0->(d=A∨d=A.map (·.add 0))/\k=g)
 | .ptr id off,u=>c.live id/\u= .pointer (some ⟨c.β id,off,none⟩)
 | .ep a e i k,u=>∃A m g,AR c a (.slice (some A) m g)/\i<m/\u= .pointer (some (A.add (i*e+k)))
 | .mp id,u=>c.live id/\u= .map (some (c.β id))
 | .ag b,u=>∃vs,u= .agg vs/\ARs c b vs.toList
 | .tup b,u=>∃vs,u= .tuple vs/\ARs c b vs.toList
 | .fn f j b,u=>∃us vs,u= .func f us vs/\ARs c j us.toList/\ARs c b vs.toList
 | .bad,_=>True
def ARs (c:Ctx):List AV->List Value->Prop
 | [],vs=>vs=[]
 | a::aZ,vs=>∃v r,vs=v::r/\AR c a v/\ARs c aZ r
def ARows (c:Ctx) (A:Option Addr) (e:Nat):Nat->List (List AV)->Prop
 | _,[]=>True
 | i,r::rs=>(r.length=e/\ACells c A (i*e) r)/\ARows c A e (i+1) rs
def ACells (c:Ctx) (A:Option Addr):Nat->List AV->Prop
 | _,[]=>True
 | k,a::aZ=>(∃b u,A=some b/\c.rd (b.add k) u/\AR c a u)/\ACells c A (k+1) aZ
end
structure Le (c c':Ctx):Prop where
 rd:∀a u,c.rd a u->c'.rd a u
 n:c.n<=c'.n
 live:∀i,c.live i->c'.live i
 β:∀i,c.live i->c'.β i=c.β i
 tok:∀i,c.live i->∀s,c'.tok i=some s->∃s0,c.tok i=some s0/\((s=s0/\c'.cur i=c.cur i)∨s0<s)
theorem Le.refl (c:Ctx):Le c c:=⟨λ_ _ h=>h,Nat.le_refl _,λ_ h=>h,λ_ _=>rfl,λ_ _ s h=>⟨s,h,.inl ⟨rfl,rfl⟩⟩⟩
theorem Le.trans {a b c:Ctx} (h:Le a b) (k:Le b c):Le a c:=
 ⟨λx u p=>k.rd x u (h.rd x u p),Nat.le_trans h.n k.n,λi d=>k.live i (h.live i d),λi d=>(k.β i (h.live i d)).trans (h.β i d),λi d s m=>by
  obtain ⟨q,l,o⟩:=k.tok i (h.live i d) s m
  obtain ⟨s0,j,g⟩:=h.tok i d q l
  refine ⟨s0,j,?_⟩
  rcases o with ⟨rfl,f⟩ | f
  ·rcases g with ⟨rfl,e⟩ | e
   ·exact .inl ⟨rfl,f.trans e⟩
   ·exact .inr e
  ·rcases g with ⟨rfl,_⟩ | e
   ·exact .inr f
   ·exact .inr (by omega)⟩
theorem Tok.le {c c':Ctx} (h:Le c c') {id st:Nat} {u:Value} (a:Tok c id st u):Tok c' id st u:=
 ⟨h.live id a.1,λs f=>by
  obtain ⟨s0,j,g⟩:=h.tok id a.1 s f
  obtain ⟨d,i⟩:=a.2 s0 j
  rcases g with ⟨rfl,b⟩ | b
  ·exact ⟨d,λe=>by rw[b];exact i e⟩
  ·exact ⟨by omega,λe=>by omega⟩⟩
mutual
theorem AR.le {c c':Ctx} (h:Le c c'):∀(a:AV) (u:Value),AR c a u->AR c' a u
 | .v _,_,e=>e
 | .sl e xs,u,⟨A,k,b,d,g⟩=>⟨A,k,b,d,ARows.le h A e 0 xs g⟩
 | .tl id st,u,b=>⟨b.1,Tok.le h b.2⟩
 | .em,_,b=>b
 | .vw a e i n,u,⟨A,m,l,p,k,b,d⟩=>⟨A,m,l,p,k,AR.le h a _ b,d⟩
 | .ptr id off,u,⟨b,d⟩=>⟨h.live id b,by rw[h.β id b];exact d⟩
 | .ep a e i k,u,⟨A,m,l,b,d,g⟩=>⟨A,m,l,AR.le h a _ b,d,g⟩
 | .mp id,u,⟨b,d⟩=>⟨h.live id b,by rw[h.β id b];exact d⟩
 | .ag j,u,⟨vs,b,d⟩=>⟨vs,b,ARs.le h j _ d⟩
 | .tup j,u,⟨vs,b,d⟩=>⟨vs,b,ARs.le h j _ d⟩
 | .fn f o j,u,⟨us,vs,b,d,g⟩=>⟨us,vs,b,ARs.le h o _ d,ARs.le h j _ g⟩
 | .bad,_,_=>True.intro
theorem ARs.le {c c':Ctx} (h:Le c c'):∀(aZ:List AV) (vs:List Value),ARs c aZ vs->ARs c' aZ vs
 | [],_,e=>e
 | a::aZ,vs,⟨v,r,b,f,d⟩=>⟨v,r,b,AR.le h a v f,ARs.le h aZ r d⟩
theorem ARows.le {c c':Ctx} (h:Le c c') (A:Option Addr) (e:Nat):∀(i:Nat) (rs:List (List AV)),ARows c A e i rs->ARows c' A e i rs
 | _,[],_=>True.intro
 | i,r::rs,⟨⟨a,d⟩,b⟩=>⟨⟨a,ACells.le h A (i*e) r d⟩,ARows.le h A e (i+1) rs b⟩
theorem ACells.le {c c':Ctx} (h:Le c c') (A:Option Addr):∀(k:Nat) (aZ:List AV),ACells c A k aZ->ACells c' A k aZ
 | _,[],_=>True.intro
 | k,a::aZ,⟨⟨e,u,g,d,b⟩,f⟩=>⟨⟨e,u,g,h.rd _ _ d,AR.le h a u b⟩,ACells.le h A (k+1) aZ f⟩
end
mutual
def AV.lt (n:Nat):AV->Bool
 | .v _=>true
 | .sl _ xs=>qb n xs
 | .tl id _=>decide (id<n)
 | .em=>true
 | .vw a _ _ _=>a.lt n
 | .ptr id _=>decide (id<n)
 | .ep a _ _ _=>a.lt n
 | .mp id=>decide (id<n)
 | .ag b=>zQ n b
 | .tup b=>zQ n b
 | .fn _ c b=>zQ n c && zQ n b
 | .bad=>true
def zQ (n:Nat):List AV->Bool
 | []=>true
 | a::aZ=>a.lt n && zQ n aZ
def qb (n:Nat):List (List AV)->Bool
 | []=>true
 | r::rs=>zQ n r && qb n rs
end
structure Less (n:Nat) (c c':Ctx):Prop where
 rd:∀a u,c.rd a u->c'.rd a u
 sz:c'.n=n
 live:∀i,i<n->c.live i->c'.live i
 β:∀i,i<n->c'.β i=c.β i
 tok:∀i,i<n->c'.tok i=c.tok i
 cur:∀i,i<n->c'.cur i=c.cur i
mutual
theorem AR.less {n:Nat} {c c':Ctx} (h:Less n c c'):∀(a:AV) (u:Value),a.lt n=true->AR c a u->AR c' a u
 | .v _,_,_,e=>e
 | .sl e xs,u,l,⟨A,k,b,d,j⟩=>⟨A,k,b,d,ARows.less h A e 0 xs (by simpa [AV.lt] using l) j⟩
 | .tl id st,u,l,b=>by
   have l:id<n:=by simpa [AV.lt] using l
   exact ⟨b.1,h.live id l b.2.1,λs p=>by rw[h.tok id l] at p;rw[h.cur id l];exact b.2.2 s p⟩
 | .em,_,_,b=>b
 | .vw a e i n,u,l,⟨A,m,o,r,k,b,d⟩=>⟨A,m,o,r,k,AR.less h a _ (by simpa [AV.lt] using l) b,d⟩
 | .ptr id off,u,l,⟨b,d⟩=>by
   have l:id<n:=by simpa [AV.lt] using l
   exact ⟨h.live id l b,by rw[h.β id l];exact d⟩
 | .ep a e i k,u,l,⟨A,m,o,b,d,j⟩=>⟨A,m,o,AR.less h a _ (by simpa [AV.lt] using l) b,d,j⟩
 | .mp id,u,l,⟨b,d⟩=>by
   have l:id<n:=by simpa [AV.lt] using l
   exact ⟨h.live id l b,by rw[h.β id l];exact d⟩
 | .ag g,u,l,⟨vs,b,d⟩=>⟨vs,b,ARs.less h g _ (by simpa [AV.lt] using l) d⟩
 | .tup g,u,l,⟨vs,b,d⟩=>⟨vs,b,ARs.less h g _ (by simpa [AV.lt] using l) d⟩
 | .fn f q g,u,l,⟨us,vs,b,d,j⟩=>by
   have l:zQ n q=true/\zQ n g=true:=by simpa [AV.lt] using l
   exact ⟨us,vs,b,ARs.less h q _ l.1 d,ARs.less h g _ l.2 j⟩
 | .bad,_,_,_=>True.intro
theorem ARs.less {n:Nat} {c c':Ctx} (h:Less n c c'):∀(aZ:List AV) (vs:List Value),zQ n aZ=true->ARs c aZ vs->ARs c' aZ vs
 | [],_,_,e=>e
 | a::aZ,vs,l,⟨v,r,b,f,d⟩=>by
   have l:a.lt n=true/\zQ n aZ=true:=by simpa [zQ] using l
   exact ⟨v,r,b,AR.less h a v l.1 f,ARs.less h aZ r l.2 d⟩
theorem ARows.less {n:Nat} {c c':Ctx} (h:Less n c c') (A:Option Addr) (e:Nat):∀(i:Nat) (rs:List (List AV)),qb n rs=true->ARows c A e i rs->ARows c' A e i rs
 | _,[],_,_=>True.intro
 | i,r::rs,l,⟨⟨a,d⟩,b⟩=>by
   have l:zQ n r=true/\qb n rs=true:=by simpa [qb] using l
   exact ⟨⟨a,ACells.less h A (i*e) r l.1 d⟩,ARows.less h A e (i+1) rs l.2 b⟩
theorem ACells.less {n:Nat} {c c':Ctx} (h:Less n c c') (A:Option Addr):∀(k:Nat) (aZ:List AV),zQ n aZ=true->ACells c A k aZ->ACells c' A k aZ
 | _,[],_,_=>True.intro
 | k,a::aZ,l,⟨⟨e,u,g,d,b⟩,f⟩=>by
   have l:a.lt n=true/\zQ n aZ=true:=by simpa [zQ] using l
   exact ⟨⟨e,u,g,h.rd _ _ d,AR.less h a u l.1 b⟩,ACells.less h A (k+1) aZ l.2 f⟩
end
end Go.Proofs.YtigdlmpjijhpaaaGreat.Ax
namespace Go.Proofs.YtigdlmpjijhpaaaGreat.Ax
open Go Go.RowKit
inductive Ob where
 | box (ty:TypeId) (cs:List AV)
 | row (ty e:Nat) (xs:List (List AV)) (st:Nat)
 | mapo (es:List (AV × AV))
 | raw (l:Nat) (o:Obj) (ks:List AV) (us:List Value)
 | gone
 | res
def Ob.isRes:Ob->Bool
 | .res=>true
 | _=>false
structure Gh where
 β:Nat->Nat
 cur:Nat->Value
def Ob.blk (g:Gh) (i:Nat):Ob->Option Nat
 | .box _ _=>some (g.β i)
 | .row _ _ _ _=>(g.cur i).ownBlock
 | .mapo _=>some (g.β i)
 | .raw l _ _ _=>some l
 | .gone | .res=>none
def kept (g:Gh) (h:List Ob) (b:Nat):Prop:=∃(i:Nat) (o:Ob),h[i]? =some o/\o.blk g i=some b
def Ob.tok:Option Ob->Option Nat
 | some (.row _ _ _ st)=>some st
 | _=>none
def ctx (w:World) (g:Gh) (h:List Ob):Ctx:=
 { rd:=λa u=>¬ kept g h a.block/\w.cell? a=some u
   n:=h.length
   live:=λi=>∃o,h[i]? =some o/\o.isRes=false
   β:=g.β
   cur:=g.cur
   tok:=λi=>Ob.tok h[i]? }
def MapRel (c:Ctx):List (AV × AV)->List MapEntry->Prop
 | [],es=>es=[]
 | (k,v)::r,es=>∃e q,es=e::q/\AR c k e.key/\AR c v e.val/\MapRel c r q
theorem MapRel.le {c c':Ctx} (h:Le c c'):∀(l:List (AV × AV)) (es:List MapEntry),MapRel c l es->MapRel c' l es
 | [],_,e=>e
 | (_,_)::r,_,⟨e,q,a,d,b,f⟩=>⟨e,q,a,AR.le h _ _ d,AR.le h _ _ b,MapRel.le h r q f⟩
def Ob.ok (B:Nat) (w:World) (c:Ctx) (i:Nat):Ob->Prop
 | .box ty a=>B<=c.β i/\∃vs,w.heap[c.β i]? =some (.cells vs ty (0,0))/\ARs c a vs.toList
 | .row ty e xs _=>0<e/\(∀x∈xs,x.length=e)/\∃cells,w.ownsRow B ty e (c.cur i) xs.length cells/\ARs c xs.flatten cells
 | .mapo l=>B<=c.β i/\∃es k l',w.heap[c.β i]? =some (.map es k)/\l'.Perm l/\MapRel c l' es.toList/\(es.toList.map (·.key)).Nodup
 | .raw l o ks us=>B<=l/\w.heap[l]? =some o/\ARs c ks us
 | .gone | .res=>True
structure HOk (B:Nat) (w:World) (g:Gh) (h:List Ob):Prop where
 ok:∀(i:Nat) (o:Ob),h[i]? =some o->o.ok B w (ctx w g h) i
 apart:∀(i j:Nat) (o p:Ob) (b:Nat),i≠j->h[i]? =some o->h[j]? =some p->o.blk g i=some b->p.blk g j≠some b
section
variable {B:Nat} {w w':World} {g g':Gh} {h h':List Ob} {i:Nat} {o o':Ob}
theorem Z2a {c:Ctx} (h:o.ok B w c i) (j:c.β=g.β) (m:c.cur=g.cur) {b:Nat} (a:o.blk g i=some b):B<=b/\b<w.heap.size:=by
 cases o with
 | box ty n=>
   obtain ⟨f,vs,d,_⟩:=h
   rw[j] at f d
   injection a with a
   subst a
   exact ⟨f,(Array.getElem?_eq_some_iff.1 d).1⟩
 | row ty e xs st=>
   obtain ⟨_,_,cells,d,_⟩:=h
   rw[m] at d
   exact World.ownsRow.lt d b a
 | mapo l=>
   obtain ⟨f,vs,k,l',d,_⟩:=h
   rw[j] at f d
   injection a with a
   subst a
   exact ⟨f,(Array.getElem?_eq_some_iff.1 d).1⟩
 | raw l o ks us=>
   obtain ⟨f,d,_⟩:=h
   injection a with a
   subst a
   exact ⟨f,(Array.getElem?_eq_some_iff.1 d).1⟩
 | gone=>cases a
 | res=>cases a
theorem HOk.lt (k:HOk B w g h) (a:h[i]? =some o) {b:Nat} (c:o.blk g i=some b):B<=b/\b<w.heap.size:=Z2a (k.ok i o a) rfl rfl c
theorem Vw {D:Nat} {e:TypeId} {size:Nat} {v:Value} {k:Nat} {xs:List Value} (h:w.ownsRow D e size v k xs) (c:∀b,v.ownBlock=some b->w'.heap[b]? =w.heap[b]?):w'.ownsRow D e size v k xs:=by
 refine ⟨h.1,?_⟩
 rcases h.2 with d | ⟨g,cap,cur,f,i,a,r⟩
 ·exact .inl d
 ·subst f
  exact .inr ⟨g,cap,cur,rfl,i,(c g rfl).trans a,r⟩
theorem Ob.ok_le {c c':Ctx} (a:o.isRes=false->c.live i) (f:o.ok B w c i) (d:Le c c') (s:c'.cur i=c.cur i) (q:c.β=g.β) (p:c.cur=g.cur) (n:∀b,o.blk g i=some b->w'.heap[b]? =w.heap[b]?):o.ok B w' c' i:=by
 cases o with
 | box ty x=>
   obtain ⟨m,vs,j,h⟩:=f
   have a:=a rfl
   refine ⟨by rw[d.β i a];exact m,vs,?_,ARs.le d _ _ h⟩
   rw[d.β i a]
   exact (n _ (by rw[q];rfl)).trans j
 | row ty e xs st=>
   obtain ⟨m,v,cells,j,h⟩:=f
   refine ⟨m,v,cells,?_,ARs.le d _ _ h⟩
   rw[s]
   exact Vw j λb r=>n b (by rw[p] at r;exact r)
 | mapo l=>
   obtain ⟨m,vs,k,l',j,t,h,u⟩:=f
   have a:=a rfl
   refine ⟨by rw[d.β i a];exact m,vs,k,l',?_,t,MapRel.le d _ _ h,u⟩
   rw[d.β i a]
   exact (n _ (by rw[q];rfl)).trans j
 | raw l o ks us=>exact ⟨f.1,(n _ rfl).trans f.2.1,ARs.le d _ _ f.2.2⟩
 | gone=>trivial
 | res=>trivial
theorem Le.ext (d:Below w.heap.size w w'):Le (ctx w g h) (ctx w' g h):=
 ⟨λa _ b=>⟨b.1,(World.cell?_of_block (w:=w) (d.block a.block (World.block_lt_of_cell? w a b.2))).trans b.2⟩,Nat.le_refl _,λ_ h=>h,λ_ _=>rfl,λ_ _ s c=>⟨s,c,.inl ⟨rfl,rfl⟩⟩⟩
theorem j8 (a:h[i]? =some o):i<h.length:=(List.getElem?_eq_some_iff.1 a).1
theorem Vx (a:h[i]? =some o) (b:o.isRes=false):(ctx w g h).live i:=⟨o,a,b⟩
theorem HOk.ext (k:HOk B w g h) (c:Below w.heap.size w w'):HOk B w' g h:=
 ⟨λi o a=>Ob.ok_le (g:=g) (Vx a) (k.ok i o a) (Le.ext c) rfl rfl rfl λb d=>c.block b (k.lt a d).2,k.apart⟩
theorem Z6 {j:Nat} {p:Ob} (a:g'.β j=g.β j) (b:g'.cur j=g.cur j):p.blk g' j=p.blk g j:=by
 cases p with
 | box ty c=>exact congrArg some a
 | row ty e n st=>exact congrArg Value.ownBlock b
 | mapo _=>exact congrArg some a
 | raw _ _ _ _=>rfl
 | gone=>rfl
 | res=>rfl
theorem Le.turn (q:h[i]? =some o) (x:o'.isRes=false) (F:w.grownBy w' (o.blk g i)) (D:∀j,j≠i->g'.β j=g.β j) (A:∀j,j≠i->g'.cur j=g.cur j)
  (G:∀b,o'.blk g' i=some b->o.blk g i=some b∨w.heap.size<=b)
  (r:o.isRes=false->g'.β i=g.β i/\∀s,Ob.tok (some o')=some s->∃s0,Ob.tok (some o)=some s0/\((s=s0/\g'.cur i=g.cur i)∨s0<s)):Le (ctx w g h) (ctx w' g' (h.set i o')):=by
 have m:=j8 q
 have d:∀j,j=i->(ctx w g h).live j->o.isRes=false:=λj e ⟨p,f,n⟩=>by
  subst e;rw[q] at f;injection f with f;subst f;exact n
 refine ⟨λa u E=>?_,by simp[ctx],λj ⟨p,k,v⟩=>?_,λj y=>?_,λj y s C=>?_⟩
 ·obtain ⟨f,n⟩:=E
  have t:=World.block_lt_of_cell? w a n
  refine ⟨λ⟨j,p,k,l⟩=>?_,?_⟩
  ·by_cases c:j=i
   ·subst c
    rw[List.getElem?_set_self m] at k
    injection k with k
    subst k
    rcases G _ l with B | B
    ·exact f ⟨j,o,q,B⟩
    ·omega
   ·rw[List.getElem?_set_ne (λe=>c e.symm)] at k
    exact f ⟨j,p,k,by rw[Z6 (D j c) (A j c)] at l;exact l⟩
  ·exact (World.cell?_of_block (w:=w) (F.block a.block t (λe=>f ⟨i,o,q,e.symm⟩))).trans n
 ·by_cases c:j=i
  ·subst c;exact ⟨o',List.getElem?_set_self m,x⟩
  ·exact ⟨p,by rw[List.getElem?_set_ne (λe=>c e.symm)];exact k,v⟩
 ·by_cases c:j=i
  ·have:=(r (d j c y)).1
   rw[c];exact this
  ·exact D j c
 ·by_cases c:j=i
  ·have r:=(r (d j c y)).2
   subst c
   have z:Ob.tok (some o')=some s:=by
    have:=C
    simp only[ctx,List.getElem?_set_self m] at this
    exact this
   obtain ⟨s0,f,n⟩:=r s z
   exact ⟨s0,by simp only[ctx,q];exact f,n⟩
  ·refine ⟨s,?_,.inl ⟨rfl,A j c⟩⟩
   have:=C
   simp only[ctx,List.getElem?_set_ne (λe=>c e.symm)] at this
   exact this
theorem HOk.turn (k:HOk B w g h) (x:h[i]? =some o) (F:w.grownBy w' (o.blk g i)) (G:∀j,j≠i->g'.β j=g.β j) (y:∀j,j≠i->g'.cur j=g.cur j)
  (E:∀b,o'.blk g' i=some b->o.blk g i=some b∨w.heap.size<=b) (C:Le (ctx w g h) (ctx w' g' (h.set i o'))) (D:o'.ok B w' (ctx w' g' (h.set i o')) i):HOk B w' g' (h.set i o'):=by
 have n:=j8 x
 have f:∀(j:Nat) (p:Ob),j≠i->p.blk g' j=p.blk g j:=λj p z=>Z6 (G j z) (y j z)
 refine ⟨λj p a=>?_,λu t p q b v a m c l=>?_⟩
 ·by_cases d:j=i
  ·subst d
   rw[List.getElem?_set_self n] at a
   injection a with a
   subst a
   exact D
  ·rw[List.getElem?_set_ne (λe=>d e.symm)] at a
   refine Ob.ok_le (g:=g) (Vx a) (k.ok j p a) C (y j d) rfl rfl λb A=>?_
   exact F.block b (k.lt a A).2 λe=>k.apart j i p o b d a x A e.symm
 ·have key:∀(j:Nat) (p:Ob) (b:Nat),j≠i->h[j]? =some p->p.blk g j=some b->o'.blk g' i≠some b:=λj p b d a c e=>by
   rcases E b e with r | r
   ·exact k.apart j i p o b d a x c r
   ·have:=(k.lt a c).2;omega
  by_cases r:u=i
  ·subst r
   have s:t≠u:=λe=>v e.symm
   rw[List.getElem?_set_self n] at a
   injection a with a
   subst a
   rw[List.getElem?_set_ne (λe=>s e.symm)] at m
   rw[f t q s] at l
   exact key t q b s m l c
  ·rw[List.getElem?_set_ne (λe=>r e.symm)] at a
   rw[f u p r] at c
   by_cases s:t=i
   ·subst s
    rw[List.getElem?_set_self n] at m
    injection m with m
    subst m
    exact key u p b r a c l
   ·rw[List.getElem?_set_ne (λe=>s e.symm)] at m
    rw[f t q s] at l
    exact k.apart u t p q b v a m c l
theorem Z7 {j:Nat} {p:Ob} (a:(h++[o])[j]? =some p):(j<h.length/\h[j]? =some p)∨(j=h.length/\p=o):=by
 rcases Nat.lt_or_ge j h.length with b | b
 ·rw[List.getElem?_append_left b] at a;exact .inl ⟨b,a⟩
 ·rw[List.getElem?_append_right b] at a
  have c:j - h.length=0:=by
   rcases Nat.eq_zero_or_pos (j - h.length) with e | e
   ·exact e
   ·rw[List.getElem?_eq_none (by simp;omega)] at a;cases a
  rw[c] at a
  injection a with a
  exact .inr ⟨by omega,a.symm⟩
theorem Le.more (r:Below w.heap.size w w') (m:∀j,j<h.length->g'.β j=g.β j) (k:∀j,j<h.length->g'.cur j=g.cur j) (v:∀b,o.blk g' h.length=some b->w.heap.size<=b):Le (ctx w g h) (ctx w' g' (h++[o])):=by
 have l:∀j,(ctx w g h).live j->j<h.length:=λj ⟨p,d,_⟩=>j8 d
 refine ⟨λa u q=>?_,by simp[ctx],λj ⟨p,d,f⟩=>⟨p,by rw[List.getElem?_append_left (j8 d)];exact d,f⟩,λj c=>m j (l j c),λj c s t=>?_⟩
 ·obtain ⟨x,n⟩:=q
  have i:=World.block_lt_of_cell? w a n
  refine ⟨λ⟨j,p,d,e⟩=>?_,(World.cell?_of_block (w:=w) (r.block a.block i)).trans n⟩
  rcases Z7 d with ⟨c,d⟩ | ⟨rfl,rfl⟩
  ·exact x ⟨j,p,d,by rw[Z6 (m j c) (k j c)] at e;exact e⟩
  ·have:=v _ e
   omega
 ·have c:=l j c
  refine ⟨s,?_,.inl ⟨rfl,k j c⟩⟩
  have:=t
  simp only[ctx,List.getElem?_append_left c] at this
  exact this
theorem HOk.more (k:HOk B w g h) (A:Below w.heap.size w w') (C:∀j,j<h.length->g'.β j=g.β j) (u:∀j,j<h.length->g'.cur j=g.cur j)
  (l:∀b,o.blk g' h.length=some b->w.heap.size<=b) (y:Le (ctx w g h) (ctx w' g' (h++[o]))) (z:o.ok B w' (ctx w' g' (h++[o])) h.length):HOk B w' g' (h++[o]):=by
 have a:∀(j:Nat) (p:Ob),j<h.length->p.blk g' j=p.blk g j:=λj p n=>Z6 (C j n) (u j n)
 refine ⟨λj p f=>?_,λt r p q b m f v d c=>?_⟩
 ·rcases Z7 f with ⟨n,f⟩ | ⟨rfl,rfl⟩
  ·exact Ob.ok_le (g:=g) (Vx f) (k.ok j p f) y (u j n) rfl rfl λb D=>A.block b (k.lt f D).2
  ·exact z
 ·rcases Z7 f with ⟨x,i⟩ | ⟨rfl,rfl⟩
  ·rw[a t p x] at d
   rcases Z7 v with ⟨s,e⟩ | ⟨rfl,rfl⟩
   ·rw[a r q s] at c
    exact k.apart t r p q b m i e d c
   ·have:=l b c
    have:=(k.lt i d).2
    omega
  ·rcases Z7 v with ⟨s,e⟩ | ⟨rfl,rfl⟩
   ·rw[a r q s] at c
    have:=l b d
    have:=(k.lt e c).2
    omega
   ·exact m rfl
def Kq (n:Nat):Ob->Bool
 | .box _ a=>zQ n a
 | .row _ _ xs _=>qb n xs
 | .mapo es=>es.all λx=>x.1.lt n && x.2.lt n
 | .raw _ _ ks _=>zQ n ks
 | .gone | .res=>true
theorem Zv (n:Nat):∀(a b:List AV),zQ n a=true->zQ n b=true->zQ n (a++b)=true
 | [],_,_,h=>h
 | x::a,b,h,k=>by
   have h:x.lt n=true/\zQ n a=true:=by simpa [zQ] using h
   simp[zQ,h.1,Zv n a b h.2 k]
theorem yD (n:Nat):∀(xs:List (List AV)),qb n xs=true->zQ n xs.flatten=true
 | [],_=>rfl
 | r::rs,h=>by
   have h:zQ n r=true/\qb n rs=true:=by simpa [qb] using h
   exact Zv n r _ h.1 (yD n rs h.2)
theorem km (w:World) (g:Gh) (h L:List Ob):Less h.length (ctx w g (h++L)) (ctx w g h):=
 { rd:=λa u c=>⟨λ⟨j,p,d,f⟩=>c.1 ⟨j,p,by rw[List.getElem?_append_left (j8 d)];exact d,f⟩,c.2⟩
   sz:=rfl
   live:=λi b ⟨o,e,k⟩=>⟨o,by rw[List.getElem?_append_left b] at e;exact e,k⟩
   β:=λ_ _=>rfl
   tok:=λi b=>by show Ob.tok _=Ob.tok _;rw[List.getElem?_append_left b]
   cur:=λ_ _=>rfl }
theorem MapRel.less {n:Nat} {c c':Ctx} (h:Less n c c'):∀(l:List (AV × AV)) (es:List MapEntry),(l.all λx=>x.1.lt n && x.2.lt n)=true->MapRel c l es->MapRel c' l es
 | [],_,_,e=>e
 | (a,b)::r,_,d,⟨e,q,j,i,f,g⟩=>by
   simp only[List.all_cons,Bool.and_eq_true] at d
   exact ⟨e,q,j,AR.less h _ _ d.1.1 i,AR.less h _ _ d.1.2 f,MapRel.less h r q d.2 g⟩
theorem HOk.take {L:List Ob} (k:HOk B w g (h++L)) (z:∀o∈h,Kq h.length o=true):HOk B w g h:=by
 have up:∀(j:Nat) (p:Ob),h[j]? =some p->(h++L)[j]? =some p:=λj p m=>by rw[List.getElem?_append_left (j8 m)];exact m
 refine ⟨λi o r=>?_,λi j o p b s r t=>k.apart i j o p b s (up i o r) (up j p t)⟩
 have c:=k.ok i o (up i o r)
 have a:=z o (List.mem_of_getElem? r)
 have q:=km w g h L
 cases o with
 | box ty A=>
   obtain ⟨f,vs,n,d⟩:=c
   exact ⟨f,vs,n,ARs.less q _ _ a d⟩
 | row ty e xs st=>
   obtain ⟨f,v,cells,n,d⟩:=c
   exact ⟨f,v,cells,n,ARs.less q _ _ (yD _ _ a) d⟩
 | mapo l=>
   obtain ⟨f,vs,k,l',n,m,d,u⟩:=c
   refine ⟨f,vs,k,l',n,m,MapRel.less q _ _ ?_ d,u⟩
   have a:(l.all λx=>x.1.lt h.length && x.2.lt h.length)=true:=a
   rw[List.all_eq_true] at a⊢
   exact λx y=>a x (m.mem_iff.1 y)
 | raw l o ks us=>exact ⟨c.1,c.2.1,ARs.less q _ _ a c.2.2⟩
 | gone=>trivial
 | res=>trivial
def Z8 (φ:Nat->Ob) (i:Nat) (o:Ob):Ob:=if o.isRes then φ i else o
def fill (φ:Nat->Ob) (h:List Ob):List Ob:=h.mapIdx (Z8 φ)
def Upto (φ:Nat->Ob) (n:Nat):Prop:=∀i,n<=i->φ i= .res
theorem Upto.mono {φ:Nat->Ob} {n m:Nat} (k:Upto φ n) (h:n<=m):Upto φ m:=λi a=>k i (Nat.le_trans h a)
variable {φ:Nat->Ob}
theorem qi:(fill φ h).length=h.length:=by simp[fill]
theorem xQ:(fill φ h)[i]? =h[i]?.map (Z8 φ i):=by simp[fill]
theorem zM (a:h[i]? =some o) (b:o.isRes=false):(fill φ h)[i]? =some o:=by
 rw[xQ,a];simp[Z8,b]
theorem q9 (c:o.isRes=false):fill φ (h.set i o)=(fill φ h).set i o:=by
 apply List.ext_getElem?
 intro j
 rw[xQ]
 by_cases a:i=j
 ·subst a
  by_cases b:i<h.length
  ·rw[List.getElem?_set_self b,List.getElem?_set_self (by rw[qi];exact b)];simp[Z8,c]
  ·rw[List.getElem?_eq_none (by simp;omega),List.getElem?_eq_none (by simp[qi];omega)];rfl
 ·rw[List.getElem?_set_ne a,List.getElem?_set_ne a,xQ]
theorem jh {L:List Ob} (c:Upto φ h.length):fill φ (h++L)=fill φ h++L:=by
 apply List.ext_getElem?
 intro j
 rw[xQ]
 by_cases a:j<h.length
 ·rw[List.getElem?_append_left a,List.getElem?_append_left (by rw[qi];exact a),xQ]
 ·rw[List.getElem?_append_right (by omega),List.getElem?_append_right (by rw[qi];omega),qi]
  cases d:L[j - h.length]? with
  | none=>rfl
  | some o=>
    simp only[Option.map_some,Z8]
    split
    ·rename_i b
     rw[c j (by omega)]
     cases o<;>first | rfl | cases b
    ·rfl
theorem KG:fill (λ_=> .res) h=h:=by
 apply List.ext_getElem?
 intro j
 rw[xQ]
 cases h[j]? with
 | none=>rfl
 | some o=>simp only[Option.map_some,Z8];cases o<;>rfl
def ResK (h h':List Ob):Prop:=∀i:Nat,h[i]? =some Ob.res->h'[i]? =some Ob.res
theorem ResK.refl:ResK h h:=λ_ k=>k
theorem ResK.trans {h'':List Ob} (a:ResK h h') (b:ResK h' h''):ResK h h'':=λi k=>b i (a i k)
theorem zK (b:h[i]? =some o) (c:o.isRes=false):ResK h (h.set i o'):=λj a=>by
 by_cases e:i=j
 ·subst e;rw[b] at a;injection a with a;subst a;cases c
 ·rw[List.getElem?_set_ne e];exact a
theorem zW {L:List Ob}:ResK h (h++L):=λj a=>by
 rw[List.getElem?_append_left (List.getElem?_eq_some_iff.1 a).1];exact a
end
inductive K where
 | int (k:IntKind) | bool | str | slice (e:TypeId) | struct (fs:List (Nat × TypeId)) | arr (n:Nat) (e:TypeId) | ptr (e:TypeId) | mapk (k e:TypeId) | other
structure Ty where
 ok:Bool
 agg:Bool
 sz:Nat
 bytes:Nat
 zero:Option (List Value)
 one:Bool
 kind:K
def qqa:TypeDesc->Bool
 | .struct _ | .array _ _=>true
 | _=>false
def kOf:TypeDesc->K
 | .int k=> .int k
 | .bool=> .bool
 | .string=> .str
 | .slice e=> .slice e
 | .struct a=> .struct (a.toList.map λf=>(f.offset,f.type))
 | .array n e=> .arr n e
 | .pointer e=> .ptr e
 | .map k e=> .mapk k e
 | _=> .other
def yqa:Option Value->Bool
 | some v=>v.oneCell'
 | none=>false
def zi (P:Program) (t:TypeId):Ty:=
 match P.underlying t,P.info? t with
 | some d,some i=>⟨true,qqa d,i.size,i.bytes,i.zero.map λv=>v.cells.toList,yqa i.zero,kOf d⟩
 | _,_=>⟨false,false,0,0,none,false,.other⟩
theorem qd {P:Program} {t:TypeId} (h:(zi P t).ok=true):∃d i,P.underlying t=some d/\P.info? t=some i/\zi P t=⟨true,qqa d,i.size,i.bytes,i.zero.map λv=>v.cells.toList,yqa i.zero,kOf d⟩:=by
 cases a:P.underlying t with
 | none=>rw[zi,a] at h;exact absurd h (by simp)
 | some d=>
   cases b:P.info? t with
   | none=>rw[zi,a,b] at h;exact absurd h (by simp)
   | some i=>exact ⟨d,i,rfl,rfl,by rw[zi,a,b]⟩
def nth:List AV->Nat->AV
 | [],_=> .bad
 | a::_,0=>a
 | _::r,n+1=>nth r n
def cut:List AV->Nat->Nat->Option (List AV)
 | _,0,0=>some []
 | [],_,_=>none
 | a::r,0,n+1=>(cut r 0 n).map (a:: ·)
 | _::r,k+1,n=>cut r k n
def lay:List AV->Nat->List AV->Option (List AV)
 | b,0,[]=>some b
 | [],_,_=>none
 | _::r,0,v::vs=>(lay r 0 vs).map (v:: ·)
 | a::r,k+1,vs=>(lay r k vs).map (a:: ·)
def ofV:Value->AV
 | .agg a=> .ag (a.toList.map .v)
 | x=> .v x
def ev (T:Nat->AV):Operand->AV
 | .tmp i=>T i
 | .const x=>ofV x
 | .func f=> .fn (.func f) [] []
 | .global _=> .bad
def AV.one:AV->Bool
 | .v x=>x.oneCell'
 | .ag _ | .tup _ | .bad=>false
 | _=>true
def AV.cells:AV->Option (List AV)
 | .ag b=>if b.all AV.one then some b else none
 | .tup _ | .bad=>none
 | .v x=>if x.oneCell' then some [.v x] else none
 | a=>some [a]
def part (a:List AV) (k:Nat) (agg:Bool) (n:Nat):Option AV:=
 if agg then (cut a k n).map .ag else if k<a.length then some (nth a k) else none
def eOf (h:List Ob):AV->Option Nat
 | .sl e _=>some e
 | .tl id _=>match h[id]? with
   | some (.row _ e _ _)=>some e
   | _=>none
 | .vw a e _ _=>(eOf h a).bind λb=>if b=e then some e else none
 | _=>none
def zo (h:List Ob):AV->Option (List (List AV))
 | .sl _ xs=>some xs
 | .tl id st=>match h[id]? with
   | some (.row _ _ xs s)=>if s=st then some xs else none
   | _=>none
 | .vw a e i n=>(zo h a).bind λxs=>if i+n<=xs.length/\(n=0∨eOf h a=some e) then some ((xs.drop i).take n) else none
 | .v (.slice none 0 _)=>some []
 | .em=>some []
 | _=>none
section
variable {c:Ctx}
theorem xy:∀ {aZ:List AV} {vs:List Value},ARs c aZ vs->aZ.length=vs.length
 | [],vs,e=>by have e:vs=[]:=e;rw[e];rfl
 | a::aZ,vs,⟨v,r,b,_,d⟩=>by rw[b];simp[xy d]
theorem kL:∀ {aZ:List AV} {vs:List Value},ARs c aZ vs->∀i,i<aZ.length->∃u,vs[i]? =some u/\AR c (nth aZ i) u
 | a::aZ,vs,⟨v,r,b,e,d⟩,0,_=>⟨v,by rw[b];rfl,e⟩
 | a::aZ,vs,⟨v,r,b,e,d⟩,i+1,h=>by
   obtain ⟨u,g,f⟩:=kL d i (by simpa using h)
   exact ⟨u,by rw[b];exact g,f⟩
theorem Z9:∀ {aZ:List AV} {i:Nat} {a:AV},aZ[i]? =some a->nth aZ i=a
 | [],_,_,h=>by cases h
 | x::aZ,0,a,h=>by injection h
 | x::aZ,i+1,a,h=>Z9 (aZ:=aZ) (i:=i) h
theorem wg:∀ {aZ:List AV} {i:Nat},i<aZ.length->aZ[i]? =some (nth aZ i)
 | x::aZ,0,_=>rfl
 | x::aZ,i+1,h=>wg (aZ:=aZ) (i:=i) (by simpa using h)
theorem Qa:∀(vs:List Value),ARs c (vs.map .v) vs
 | []=>rfl
 | v::r=>⟨v,r,rfl,rfl,Qa r⟩
theorem kn:∀ {aZ b:List AV} {us vs:List Value},ARs c aZ us->ARs c b vs->ARs c (aZ++b) (us++vs)
 | [],b,us,vs,e,h=>by have e:us=[]:=e;subst e;exact h
 | a::aZ,b,us,vs,⟨u,r,d,g,f⟩,h=>by subst d;exact ⟨u,r++vs,rfl,g,kn f h⟩
theorem yVa (x:Value):AR c (ofV x) x:=by
 unfold ofV
 split
 ·exact ⟨_,rfl,Qa _⟩
 ·rfl
theorem Vy:∀ {aZ:List AV} {vs:List Value},ARs c aZ vs->∀(k n:Nat) {rs:List AV},cut aZ k n=some rs->ARs c rs ((vs.drop k).take n)/\k+n<=vs.length/\rs.length=n
 | [],vs,e,0,0,rs,h=>by have e:vs=[]:=e;cases h;rw[e];exact ⟨rfl,Nat.le_refl _,rfl⟩
 | [],_,_,k+1,n,rs,h=>by cases h
 | [],_,_,0,n+1,rs,h=>by cases h
 | a::aZ,vs,_,0,0,rs,h=>by cases h;simp[ARs]
 | a::aZ,vs,⟨u,r,g,j,d⟩,0,n+1,rs,h=>by
   unfold cut at h
   cases b:cut aZ 0 n with
   | none=>rw[b] at h;cases h
   | some q=>
     rw[b] at h
     injection h with h
     subst h
     subst g
     obtain ⟨f,l,i⟩:=Vy d 0 n b
     exact ⟨⟨u,_,rfl,j,f⟩,by simp;omega,by simp[i]⟩
 | a::aZ,vs,⟨u,r,g,j,d⟩,k+1,n,rs,h=>by
   unfold cut at h
   subst g
   obtain ⟨f,l,i⟩:=Vy d k n h
   exact ⟨f,by simp;omega,i⟩
theorem Qb:∀ {aZ:List AV} {vs:List Value},ARs c aZ vs->∀(k:Nat) {ns rs:List AV} {us:List Value},ARs c ns us->lay aZ k ns=some rs->ARs c rs (vs.take k++us++vs.drop (k+us.length))/\k+us.length<=vs.length
 | aZ,vs,h,0,[],rs,us,d,e=>by
   have d:us=[]:=d
   subst d
   have:lay aZ 0 []=some aZ:=by cases aZ<;>rfl
   rw[this] at e
   cases e
   exact ⟨by simpa using h,by simp⟩
 | [],vs,e,k+1,ns,rs,us,d,h=>by cases h
 | [],vs,e,0,n::ns,rs,us,d,h=>by cases h
 | a::aZ,vs,⟨u,r,g,m,f⟩,0,n::ns,rs,us,⟨x,o,s,l,j⟩,h=>by
   unfold lay at h
   cases b:lay aZ 0 ns with
   | none=>rw[b] at h;cases h
   | some q=>
     rw[b] at h
     injection h with h
     subst h
     subst g
     subst s
     obtain ⟨i,p⟩:=Qb f 0 j b
     exact ⟨⟨x,_,rfl,l,by simpa using i⟩,by simp;omega⟩
 | a::aZ,vs,⟨u,r,g,m,f⟩,k+1,ns,rs,us,d,h=>by
   unfold lay at h
   cases b:lay aZ k ns with
   | none=>rw[b] at h;cases h
   | some q=>
     rw[b] at h
     injection h with h
     subst h
     subst g
     obtain ⟨i,p⟩:=Qb f k d b
     refine ⟨⟨u,_,rfl,m,?_⟩,by simp;omega⟩
     rw[show k+1+us.length=(k+us.length)+1 by omega]
     exact i
theorem JQ:∀ {aZ:List AV} {k:Nat} {ns rs:List AV},lay aZ k ns=some rs->rs.length=aZ.length
 | aZ,0,[],rs,h=>by
   have:lay aZ 0 []=some aZ:=by cases aZ<;>rfl
   rw[this] at h;cases h;rfl
 | [],k+1,ns,rs,h=>by cases h
 | [],0,n::ns,rs,h=>by cases h
 | a::aZ,0,n::ns,rs,h=>by
   unfold lay at h
   cases b:lay aZ 0 ns with
   | none=>rw[b] at h;cases h
   | some q=>rw[b] at h;injection h with h;subst h;simp[JQ b]
 | a::aZ,k+1,ns,rs,h=>by
   unfold lay at h
   cases b:lay aZ k ns with
   | none=>rw[b] at h;cases h
   | some q=>rw[b] at h;injection h with h;subst h;simp[JQ b]
theorem Wf:∀ {a:AV} {u:Value},a.one=true->AR c a u->u.oneCell'=true/\u.cells= #[u]
 | .v x,u,h,e=>by
   have e:u=x:=e
   subst e
   refine ⟨h,?_⟩
   cases u<;>first | rfl | cases h
 | .sl _ _,u,_,⟨A,k,e,_⟩=>by subst e;exact ⟨rfl,rfl⟩
 | .ptr _ _,u,_,⟨_,e⟩=>by subst e;exact ⟨rfl,rfl⟩
 | .mp _,u,_,⟨_,e⟩=>by subst e;exact ⟨rfl,rfl⟩
 | .ep _ _ _ _,u,_,⟨A,m,b,_,_,e⟩=>by subst e;exact ⟨rfl,rfl⟩
 | .em,u,_,⟨A,k,e⟩=>by subst e;exact ⟨rfl,rfl⟩
 | .vw _ _ _ _,u,_,⟨A,m,b,d,k,_,_,_,e,_⟩=>by subst e;exact ⟨rfl,rfl⟩
 | .fn _ _ _,u,_,⟨us,vs,e,_⟩=>by subst e;exact ⟨rfl,rfl⟩
 | .tl id st,u,_,⟨⟨A,n,k,e⟩,_⟩=>by subst e;exact ⟨rfl,rfl⟩
theorem QH:∀ {aZ:List AV} {vs:List Value},aZ.all AV.one=true->ARs c aZ vs->∀v∈vs,v.oneCell'=true
 | [],vs,_,e,v,b=>by have e:vs=[]:=e;rw[e] at b;cases b
 | a::aZ,vs,h,⟨u,r,d,g,f⟩,v,b=>by
   rw[List.all_cons,Bool.and_eq_true] at h
   subst d
   rcases List.mem_cons.1 b with rfl | b
   ·exact (Wf h.1 g).1
   ·exact QH h.2 f v b
theorem J2 {a:AV} {u:Value} {g:List AV} (h:a.cells=some g) (m:AR c a u):ARs c g u.cells.toList/\(∀v∈u.cells.toList,v.oneCell'=true):=by
 have key:a.one=true->g=[a]->ARs c g u.cells.toList/\(∀v∈u.cells.toList,v.oneCell'=true):=λd n=>by
  obtain ⟨l,j⟩:=Wf d m
  rw[n,j]
  exact ⟨⟨u,[],rfl,m,rfl⟩,by simpa using l⟩
 cases a with
 | v x=>
   simp only[AV.cells] at h
   split at h
   ·rename_i d;injection h with h;exact key d h.symm
   ·cases h
 | sl e xs=>injection h with h;exact key rfl h.symm
 | tl i s=>injection h with h;exact key rfl h.symm
 | ptr i o=>injection h with h;exact key rfl h.symm
 | em=>injection h with h;exact key rfl h.symm
 | vw a e i k=>injection h with h;exact key rfl h.symm
 | ep a e i k=>injection h with h;exact key rfl h.symm
 | mp i=>injection h with h;exact key rfl h.symm
 | fn f a b=>injection h with h;exact key rfl h.symm
 | ag aZ=>
   simp only[AV.cells] at h
   split at h
   ·rename_i d
    injection h with h
    subst h
    obtain ⟨vs,l,j⟩:=m
    subst l
    exact ⟨j,QH d j⟩
   ·cases h
 | tup _=>cases h
 | bad=>cases h
theorem Vz (A:Option Addr) (e:Nat):∀(xs:List (List AV)) (a i:Nat) (r:List AV),ARows c A e a xs->xs[i]? =some r->r.length=e/\ACells c A ((a+i)*e) r
 | r::rs,a,0,_,⟨b,_⟩,h=>by injection h with h;subst h;exact b
 | r::rs,a,i+1,q,⟨_,d⟩,f=>by
   have:=Vz A e rs (a+1) i q d f
   rw[show a+1+i=a+(i+1) by omega] at this
   exact this
theorem Wg (A:Option Addr):∀(aZ:List AV) (k0 k:Nat) (a:AV),ACells c A k0 aZ->aZ[k]? =some a->∃b u,A=some b/\c.rd (b.add (k0+k)) u/\AR c a u
 | a::aZ,k0,0,_,⟨d,_⟩,h=>by injection h with h;subst h;exact d
 | a::aZ,k0,k+1,q,⟨_,e⟩,f=>by
   have:=Wg A aZ (k0+1) k q e f
   rw[show k0+1+k=k0+(k+1) by omega] at this
   exact this
theorem wh {α:Type} {e:Nat}:∀ {xs:List (List α)},(∀x∈xs,x.length=e)->∀ {i k:Nat} {r:List α} {a:α},xs[i]? =some r->r[k]? =some a->xs.flatten[i*e+k]? =some a
 | x::xs,h,0,k,r,a,b,c=>by
   injection b with b
   subst b
   rw[List.flatten_cons,List.getElem?_append_left (by have:=(List.getElem?_eq_some_iff.1 c).1;omega)]
   simpa using c
 | x::xs,h,i+1,k,r,a,b,c=>by
   have d:x.length=e:=h x (by simp)
   have:=wh (xs:=xs) (λy f=>h y (by simp[f])) (i:=i) b c
   rw[List.flatten_cons,List.getElem?_append_right (by rw[d,Nat.succ_mul];omega),d]
   rw[show (i+1)*e+k - e=i*e+k by rw[Nat.succ_mul];omega]
   exact this
theorem j9 {α:Type} {e:Nat}:∀ {xs:List (List α)},(∀x∈xs,x.length=e)->xs.flatten.length=xs.length*e
 | [],_=>by simp
 | x::xs,h=>by
   rw[List.flatten_cons,List.length_append,j9 (λy a=>h y (by simp[a])),h x (by simp),List.length_cons,Nat.succ_mul]
   omega
end
structure RowsAt (w:World) (c:Ctx) (e:Nat) (xs:List (List AV)) (A:Option Addr):Prop where
 len:∀r∈xs,r.length=e
 cell:∀(i k:Nat) (r:List AV) (a:AV),xs[i]? =some r->r[k]? =some a->∃ad u,A=some ad/\w.cell? (ad.add (i*e+k))=some u/\AR c a u
section
variable {B:Nat} {w:World} {g:Gh} {h:List Ob}
theorem ZE {id st:Nat} {u:Value} (a:AR (ctx w g h) (.tl id st) u) {ty e:Nat} {xs:List (List AV)} (b:h[id]? =some (.row ty e xs st)):u=g.cur id:=
 (a.2.2 st (by simp[ctx,b,Ob.tok])).2 rfl
theorem ko {D:Nat} {e:TypeId} {size:Nat} {v:Value} {k:Nat} {xs:List Value} (h:w.ownsRow D e size v k xs):∃A a,v= .slice A k a/\k<=a:=by
 rcases h.2 with ⟨f,c⟩ | ⟨g,cap,cur,d,_,_,b,_⟩
 ·subst c;exact ⟨none,0,f,Nat.le_refl _⟩
 ·exact ⟨_,cap,d,b⟩
theorem xz (V:HOk B w g h):∀(a:AV) {u:Value} {xs:List (List AV)},AR (ctx w g h) a u->zo h a=some xs->
  ∃A k,u= .slice A xs.length k/\xs.length<=k/\(∀e,eOf h a=some e->RowsAt w (ctx w g h) e xs A)/\(eOf h a=none->xs=[])
 | .sl e ys,u,xs,o,b=>by
   injection b with b
   subst b
   obtain ⟨A,k,t,C,y⟩:=o
   refine ⟨A,k,t,C,λT c=>?_,λc=>by cases c⟩
   injection c with c
   subst c
   refine ⟨λr b=>?_,λi k r a z F=>?_⟩
   ·obtain ⟨i,z,l⟩:=List.mem_iff_getElem.1 b
    exact (Vz A e _ 0 i r y (by rw[List.getElem?_eq_getElem z,l])).1
   ·have:=Vz A e _ 0 i r y z
    obtain ⟨Y,u,l,E,K⟩:=Wg A r _ k a this.2 F
    rw[Nat.zero_add] at E
    exact ⟨Y,u,l,E.2,K⟩
 | .tl id st,u,xs,o,b=>by
   simp only[zo] at b
   split at b
   ·rename_i ty e ys s J
    split at b
    ·rename_i hs
     injection b with b
     subst hs
     subst b
     have hc:=ZE o J
     obtain ⟨h0,t,cells,C,y⟩:=V.ok id _ J
     obtain ⟨A,H,l,E⟩:=ko C
     refine ⟨A,H,hc.trans l,E,λT c=>?_,λc=>by simp[eOf,J] at c⟩
     simp only[eOf,J,Option.some.injEq] at c
     subst c
     refine ⟨t,λi k r a z F=>?_⟩
     have X:=wh t z F
     obtain ⟨u,R,D⟩:=kL y _ (List.getElem?_eq_some_iff.1 X).1
     rw[Z9 X] at D
     rcases C.2 with ⟨K,W⟩ | ⟨U,cap,cur,hv,_⟩
     ·have:=(List.getElem?_eq_some_iff.1 z).1
      omega
     ·have S:A=some ⟨U,0,none⟩:=by
       have p:g.cur id= .slice A ys.length H:=l
       have G:g.cur id=_:=hv
       rw[p] at G
       injection G
      refine ⟨_,u,S,?_,D⟩
      have p:g.cur id= .slice A ys.length H:=l
      exact World.ownsRow.cells C (g:=U) (by show (g.cur id).ownBlock=_;rw[p,S];rfl) _ u R
    ·cases b
   ·cases b
 | .vw a e i n,u,xs,o,b=>by
   have ih:= @xz V a
   obtain ⟨A,m,H,A',k,t,C,y,h4,h5,_⟩:=o
   simp only[zo] at b
   cases q:zo h a with
   | none=>rw[q] at b;cases b
   | some ys=>
     rw[q] at b
     simp only[Option.bind_some] at b
     split at b
     ·rename_i N
      injection b with b
      subst b
      obtain ⟨A0,k0,l,E,K,W⟩:=ih t q
      injection l with e5 e6 e7
      subst e5 e6 e7
      have f:((ys.drop i).take n).length=n:=by simp;omega
      refine ⟨A',k,by rw[f];exact h4,by rw[f];exact y,λT c=>?_,λc=>?_⟩
      ·simp only[eOf] at c
       cases d:eOf h a with
       | none=>rw[d] at c;cases c
       | some I=>
         rw[d] at c
         simp only[Option.bind_some] at c
         split at c
         ·rename_i Q
          injection c with c
          subst Q c
          have Z:=K _ d
          refine ⟨λr b=>Z.len r (List.mem_of_mem_drop (List.mem_of_mem_take b)),λj k r a P F=>?_⟩
          have M:j<n:=by
           have:=(List.getElem?_eq_some_iff.1 P).1
           rw[f] at this;exact this
          rw[List.getElem?_take,if_pos M,List.getElem?_drop] at P
          obtain ⟨Y,u,z1,z2,z3⟩:=Z.cell (i+j) k r a P F
          obtain ⟨β,z4,z5⟩:=h5 (by omega)
          rw[z1] at z4
          injection z4 with z4
          subst z4
          refine ⟨_,u,z5,?_,z3⟩
          rw[Addr.add_add,show i*I+(j*I+k)=(i+j)*I+k by rw[Nat.add_mul];omega]
          exact z2
         ·cases c
      ·simp only[eOf] at c
       cases L:(ys.drop i).take n with
       | nil=>rfl
       | cons r rs=>
         exfalso
         have b:r∈ys:=List.mem_of_mem_drop (List.mem_of_mem_take (by rw[L];simp:r∈(ys.drop i).take n))
         cases d:eOf h a with
         | none=>rw[W d] at b;cases b
         | some I=>
           rw[d] at c
           simp only[Option.bind_some] at c
           split at c
           ·cases c
           ·rename_i O
            rcases N.2 with h0 | h0
            ·rw[h0] at L;simp at L
            ·rw[d] at h0;injection h0 with h0;exact O h0
     ·cases b
 | .v x,u,xs,o,b=>by
   have o:u=x:=o
   subst o
   unfold zo at b
   split at b
   ·rename_i heq;cases heq
   ·rename_i heq;cases heq
   ·rename_i heq;cases heq
   ·rename_i k heq
    injection b with b
    subst b
    injection heq with heq
    exact ⟨none,k,heq,Nat.zero_le _,λe c=>by simp[eOf] at c,λ_=>rfl⟩
   ·rename_i heq;cases heq
   ·cases b
 | .em,u,xs,⟨A,k,e⟩,b=>by
   injection b with b
   subst b
   exact ⟨_,k,e,Nat.zero_le _,λe c=>by simp[eOf] at c,λ_=>rfl⟩
 | .ptr _ _,_,_,_,b | .ep _ _ _ _,_,_,_,b | .mp _,_,_,_,b | .ag _,_,_,_,b | .tup _,_,_,_,b | .fn _ _ _,_,_,_,b | .bad,_,_,_,b=>by cases b
end
structure Good (B:Nat) (w:World) (g:Gh) (h:List Ob) (w':World) (g':Gh) (h':List Ob):Prop where
 ok:HOk B w' g' h'
 le:Le (ctx w g h) (ctx w' g' h')
 below:Below B w w'
 size:B<=w'.heap.size
section
variable {B:Nat} {w w' w'':World} {g g' g'':Gh} {h h' h'':List Ob} {P:Program}
theorem Good.refl (a:HOk B w g h) (hB:B<=w.heap.size):Good B w g h w g h:=⟨a,Le.refl _,Below.refl _ _,hB⟩
theorem Good.trans (a:Good B w g h w' g' h') (b:Good B w' g' h' w'' g'' h''):Good B w g h w'' g'' h'':=
 ⟨b.ok,a.le.trans b.le,a.below.trans b.below,b.size⟩
theorem Good.drew (b:HOk B w g h) (hB:B<=w.heap.size):Good B w g h w.drew g h:=
 have a:∀D,Below D w w.drew:=λ_=>⟨rfl,rfl,rfl,Nat.le_refl _,λ_ _=>rfl⟩
 ⟨b.ext (a _),Le.ext (a _),a _,hB⟩
def PartAt (w:World) (c:Ctx) (b:Addr) (d:List AV):Prop:=∀(k:Nat) (a:AV),d[k]? =some a->∃u,w.cell? (b.add k)=some u/\AR c a u
theorem VA:∀ {aZ:List AV} {k n:Nat} {rs:List AV},cut aZ k n=some rs->∀j,j<n->aZ[k+j]? =rs[j]? /\j<rs.length
 | _,0,0,_,_,j,c=>by omega
 | [],k+1,n,rs,h,_,_=>by cases h
 | [],0,n+1,rs,h,_,_=>by cases h
 | a::aZ,0,n+1,rs,h,j,c=>by
   unfold cut at h
   cases b:cut aZ 0 n with
   | none=>rw[b] at h;cases h
   | some q=>
     rw[b] at h
     injection h with h
     subst h
     cases j with
     | zero=>simp
     | succ j=>
       have:=VA b j (by omega)
       simp only[Nat.zero_add,List.getElem?_cons_succ,List.length_cons] at this⊢
       exact ⟨this.1,by omega⟩
 | a::aZ,k+1,n,rs,h,j,c=>by
   unfold cut at h
   have:=VA h j c
   rw[show k+1+j=(k+j)+1 by omega,List.getElem?_cons_succ]
   exact this
theorem JR:∀ {aZ:List AV} {k n:Nat} {rs:List AV},cut aZ k n=some rs->rs.length=n
 | aZ,0,0,_,h=>by
   have:cut aZ 0 0=some []:=by cases aZ<;>rfl
   rw[this] at h;cases h;rfl
 | [],k+1,n,rs,h=>by cases h
 | [],0,n+1,rs,h=>by cases h
 | a::aZ,0,n+1,rs,h=>by
   unfold cut at h
   cases b:cut aZ 0 n with
   | none=>rw[b] at h;cases h
   | some q=>rw[b] at h;injection h with h;subst h;simp[JR b]
 | a::aZ,k+1,n,rs,h=>by unfold cut at h;exact JR h
theorem YV {c:Ctx}:∀ {aZ:List AV} {vs:List Value},aZ.length=vs.length->(∀(k:Nat) (a:AV),aZ[k]? =some a->∃u:Value,vs[k]? =some u/\AR c a u)->ARs c aZ vs
 | [],[],_,_=>rfl
 | [],_::_,h,_=>by cases h
 | _::_,[],h,_=>by cases h
 | a::aZ,v::vs,g,h=>by
   obtain ⟨u,d,e⟩:=h 0 a rfl
   injection d with d
   subst d
   exact ⟨_,_,rfl,e,YV (by simpa using g) λk b f=>h (k+1) b f⟩
theorem PartAt.vals {c:Ctx} {i:Addr}:∀ {d:List AV},PartAt w c i d->∃vs:List Value,ARs c d vs/\∀(j:Nat) (u:Value),vs[j]? =some u->w.cell? (i.add j)=some u:=by
 intro d m
 have:∀k,∃u,k<d.length->(w.cell? (i.add k)=some u/\AR c (nth d k) u):=λk=>by
  by_cases e:k<d.length
  ·obtain ⟨u,n,o⟩:=m k _ (wg e);exact ⟨u,λ_=>⟨n,o⟩⟩
  ·exact ⟨undef,λh=>absurd h e⟩
 obtain ⟨f,l⟩:=Classical.axiomOfChoice this
 refine ⟨(List.range d.length).map f,YV (by simp) λk a e=>?_,λj u g=>?_⟩
 ·have b:=(List.getElem?_eq_some_iff.1 e).1
  refine ⟨f k,by simp[b],?_⟩
  have:=(l k b).2
  rw[Z9 e] at this
  exact this
 ·by_cases b:j<d.length
  ·simp[b] at g
   subst g
   exact (l j b).1
  ·have:j<((List.range d.length).map f).length:=(List.getElem?_eq_some_iff.1 g).1
   simp at this
   omega
theorem QI {c:Ctx} {t:TypeId} (D:(zi P t).ok=true) {q:Addr} {p:List AV} (z:PartAt w c q p) {k:Nat} {x:AV} (b:part p k (zi P t).agg (zi P t).sz=some x):
  ∃v,(loadVar t (q.add k)).run P w= .ok v w/\AR c x v:=by
 obtain ⟨d,i,C,E,e⟩:=qd D
 rw[e] at b
 simp only[part] at b
 have l:∀n rs,cut p k n=some rs->PartAt w c (q.add k) rs:=λn rs g j a A=>by
  have r:=JR g
  have B:=(List.getElem?_eq_some_iff.1 A).1
  have:=VA g j (by omega)
  obtain ⟨u,h,o⟩:=z (k+j) a (this.1.trans A)
  exact ⟨u,by rw[Addr.add_add];exact h,o⟩
 have f:(isAgg t).run P w= .ok (qqa d) w:=by
  simp only[isAgg,Sem.run_bind,run_underlying C,Result.andThen_ok]
  cases d<;>rfl
 have s:(sizeOf t).run P w= .ok i.size w:=by simp[sizeOf,typeInfo,E]
 split at b
 ·rename_i y
  cases g:cut p k i.size with
  | none=>rw[g] at b;cases b
  | some rs=>
    rw[g] at b
    injection b with b
    subst b
    obtain ⟨vs,h,o⟩:=(l _ _ g).vals
    have m:vs.length=i.size:=by rw[<-xy h,JR g]
    have r:=run_loadCells_list (P:=P) w (q.add k) vs o
    rw[m] at r
    refine ⟨.agg vs.toArray,?_,vs.toArray,rfl,by simpa using h⟩
    simp only[loadVar,Sem.run_bind,f,Result.andThen_ok,y,if_true,s,r,Sem.run_pure]
 ·rename_i y
  split at b
  ·rename_i F
   injection b with b
   subst b
   obtain ⟨u,h,o⟩:=z k _ (wg F)
   refine ⟨u,?_,o⟩
   simp only[loadVar,Sem.run_bind,f,Result.andThen_ok,y,if_false,Bool.false_eq_true,run_load,h]
  ·cases b
theorem J3 (i:HOk B w g h) {id:Nat} {ty:TypeId} {c:List AV} (m:h[id]? =some (.box ty c)):PartAt w (ctx w g h) ⟨g.β id,0,none⟩ c:=λk a e=>by
 obtain ⟨n,vs,j,f⟩:=i.ok id _ m
 obtain ⟨u,l,d⟩:=kL f k (List.getElem?_eq_some_iff.1 e).1
 rw[Z9 e] at d
 refine ⟨u,?_,d⟩
 have b:w.heap[g.β id]? =some (.cells vs ty (0,0)):=j
 rw[Addr.add_lit]
 simp only[World.cell?,b,Nat.zero_add]
 simpa using l
theorem yE (w:World) (b:Nat) (vs:Array Value):w.grownBy (w.setRow b vs) (some b):=
 ⟨rfl,rfl,rfl,by simp,λk _ a=>setRow_other w b k vs λe=>a (by rw[e])⟩
theorem xza (l:HOk B w g h) (hB:B<=w.heap.size) {id:Nat} {ty:TypeId} {n c:List AV} (d:h[id]? =some (.box ty n)) {a:Array Value} (q:ARs (ctx w g h) c a.toList):
  Good B w g h (w.setRow (g.β id) a) g (h.set id (.box ty c)):=by
 have f:=yE w (g.β id) a
 have i:=Le.turn (g':=g) (o':= .box ty c) d rfl f (λ_ _=>rfl) (λ_ _=>rfl) (λb e=> .inl e) (λ_=>⟨rfl,λs o=>by cases o⟩)
 obtain ⟨m,vs,p,r⟩:=l.ok id _ d
 refine ⟨l.turn d f (λ_ _=>rfl) (λ_ _=>rfl) (λb e=> .inl e) i ⟨m,a,setRow_heap w _ vs a ty (0,0) p,ARs.le i _ _ q⟩,i,?_,by simpa using hB⟩
 exact (Below.refl B w).grown f hB λk j=>by injection j with j;subst j;exact m
theorem Qc (t:HOk B w g h) (hB:B<=w.heap.size) {id:Nat} {ty e:Nat} {xs xs':List (List AV)} {st:Nat} (n:h[id]? =some (.row ty e xs st)) (v:∀x∈xs',x.length=e) {v':Value} {cells:List Value} {st':Nat}
  (f:w.grownBy w' (g.cur id).ownBlock) (c:w'.ownsRow B ty e v' xs'.length cells) (y:ARs (ctx w g h) xs'.flatten cells) (o:st'=st/\v'=g.cur id∨st<st') (l:∀b,v'.ownBlock=some b->(g.cur id).ownBlock=some b∨w.heap.size<=b):
  Good B w g h w' ⟨g.β,λj=>if j=id then v' else g.cur j⟩ (h.set id (.row ty e xs' st')):=by
 have r:∀j,j≠id->(if j=id then v' else g.cur j)=g.cur j:=λj A=>if_neg A
 have a:∀b,(Ob.row ty e xs' st').blk ⟨g.β,λj=>if j=id then v' else g.cur j⟩ id=some b->(Ob.row ty e xs st).blk g id=some b∨w.heap.size<=b:=λb u=>by
  simp only[Ob.blk,if_true] at u;exact l b u
 have m:=Le.turn (g':=⟨g.β,λj=>if j=id then v' else g.cur j⟩) (o':= .row ty e xs' st') n rfl f (λ_ _=>rfl) r a (λ_=>⟨rfl,λs p=>by
  injection p with p
  subst p
  refine ⟨st,rfl,?_⟩
  rcases o with ⟨d,q⟩ | d
  ·exact .inl ⟨d,by simp[q]⟩
  ·exact .inr d⟩)
 obtain ⟨h0,d,i,q,C⟩:=t.ok id _ n
 refine ⟨t.turn n f (λ_ _=>rfl) r a m ⟨h0,v,cells,?_,ARs.le m _ _ y⟩,m,?_,Nat.le_trans hB f.size⟩
 ·simp only[ctx,if_true];exact c
 ·exact (Below.refl B w).grown f hB λk z=>(World.ownsRow.lt q k z).1
theorem xAa (i:HOk B w g h) (hB:B<=w.heap.size) {ty:TypeId} {a:List AV} {vs:Array Value} (l:ARs (ctx w g h) a vs.toList):
  Good B w g h (w.alloc (.cells vs ty)) ⟨λj=>if j=h.length then w.heap.size else g.β j,g.cur⟩ (h++[.box ty a])/\AR (ctx (w.alloc (.cells vs ty)) ⟨λj=>if j=h.length then w.heap.size else g.β j,g.cur⟩ (h++[.box ty a])) (.ptr h.length 0) (.pointer (some ⟨w.heap.size,0,none⟩)):=by
 have c:∀D,D<=w.heap.size->Below D w (w.alloc (.cells vs ty)):=λD k=>(Below.refl D w).alloc k _
 have e:∀j,j<h.length->(if j=h.length then w.heap.size else g.β j)=g.β j:=λj m=>if_neg (by omega)
 have f:∀b,(Ob.box ty a).blk ⟨λj=>if j=h.length then w.heap.size else g.β j,g.cur⟩ h.length=some b->w.heap.size<=b:=λb c=>by
  simp[Ob.blk] at c;omega
 have d:=Le.more (g:=g) (g':=⟨λj=>if j=h.length then w.heap.size else g.β j,g.cur⟩) (o:= .box ty a) (c _ (Nat.le_refl _)) e (λ_ _=>rfl) f
 refine ⟨⟨i.more (c _ (Nat.le_refl _)) e (λ_ _=>rfl) f d ⟨by simp[ctx];exact hB,vs,?_,ARs.le d _ _ l⟩,d,c _ hB,by simp;omega⟩,⟨.box ty a,by simp,rfl⟩,by simp[ctx]⟩
 simp only[ctx,if_true]
 exact heap_alloc_new w _
theorem yF (m:HOk B w g h) (hB:B<=w.heap.size) {ty e:Nat} (q:0<e) {xs:List (List AV)} (p:∀x∈xs,x.length=e) {v':Value} {cells:List Value} (st:Nat)
  (c:Below w.heap.size w w') (a:w'.ownsRow B ty e v' xs.length cells) (r:ARs (ctx w g h) xs.flatten cells) (d:∀b,v'.ownBlock=some b->w.heap.size<=b):
  Good B w g h w' ⟨g.β,λj=>if j=h.length then v' else g.cur j⟩ (h++[.row ty e xs st])/\AR (ctx w' ⟨g.β,λj=>if j=h.length then v' else g.cur j⟩ (h++[.row ty e xs st])) (.tl h.length st) v':=by
 have i:∀j,j<h.length->(if j=h.length then v' else g.cur j)=g.cur j:=λj u=>if_neg (by omega)
 have l:∀b,(Ob.row ty e xs st).blk ⟨g.β,λj=>if j=h.length then v' else g.cur j⟩ h.length=some b->w.heap.size<=b:=λb c=>by
  simp only[Ob.blk,if_true] at c;exact d b c
 have f:=Le.more (g:=g) (g':=⟨g.β,λj=>if j=h.length then v' else g.cur j⟩) (o:= .row ty e xs st) c (λ_ _=>rfl) i l
 obtain ⟨A,t,n,_⟩:=ko a
 refine ⟨⟨m.more c (λ_ _=>rfl) i l f ⟨q,p,cells,?_,ARs.le f _ _ r⟩,f,c.mono hB,Nat.le_trans hB c.size⟩,⟨A,_,t,n⟩,⟨.row ty e xs st,by simp,rfl⟩,λs k=>?_⟩
 ·simp only[ctx,if_true];exact a
 ·simp[ctx,Ob.tok] at k
  subst k
  exact ⟨Nat.le_refl _,λ_=>by simp[ctx]⟩
theorem VB (p:HOk B w g h) (hB:B<=w.heap.size) {i:Nat} (l:h[i]? =some .res) {o:Ob} (n:o.isRes=false) (a:Below w.heap.size w w') (f:∀j,j≠i->g'.β j=g.β j) (e:∀j,j≠i->g'.cur j=g.cur j)
  (c:∀b,o.blk g' i=some b->w.heap.size<=b) (r:Le (ctx w g h) (ctx w' g' (h.set i o))->o.ok B w' (ctx w' g' (h.set i o)) i):Good B w g h w' g' (h.set i o):=by
 have m:w.grownBy w' ((Ob.res).blk g i):=⟨a.os,a.tape,a.output,a.size,λk q _=>a.block k q⟩
 have d:=Le.turn (g':=g') (o':=o) l n m f e (λb a=> .inr (c b a)) (λh=>by cases h)
 exact ⟨p.turn l m f e (λb a=> .inr (c b a)) d (r d),d,a.mono hB,Nat.le_trans hB a.size⟩
theorem yWa (f:HOk B w g h) (hB:B<=w.heap.size) {i:Nat} (c:h[i]? =some .res) {ty:TypeId} {a:List AV} {vs:Array Value} (l:ARs (ctx w g h) a vs.toList):
  Good B w g h (w.alloc (.cells vs ty)) ⟨λj=>if j=i then w.heap.size else g.β j,g.cur⟩ (h.set i (.box ty a))/\AR (ctx (w.alloc (.cells vs ty)) ⟨λj=>if j=i then w.heap.size else g.β j,g.cur⟩ (h.set i (.box ty a))) (.ptr i 0) (.pointer (some ⟨w.heap.size,0,none⟩)):=by
 refine ⟨VB f hB c rfl ((Below.refl _ w).alloc (Nat.le_refl _) _) (λj d=>if_neg d) (λ_ _=>rfl) (λb e=>?_) (λk=>⟨?_,vs,?_,ARs.le k _ _ l⟩),⟨.box ty a,List.getElem?_set_self (j8 c),rfl⟩,by simp[ctx]⟩
 ·simp[Ob.blk] at e;omega
 ·simp[ctx];exact hB
 ·simp only[ctx,if_true];exact heap_alloc_new w _
theorem yXa (l:HOk B w g h) (hB:B<=w.heap.size) {i:Nat} (f:h[i]? =some .res) {ty e:Nat} (q:0<e) {xs:List (List AV)} (p:∀x∈xs,x.length=e) {v':Value} {cells:List Value} (st:Nat)
  (c:Below w.heap.size w w') (a:w'.ownsRow B ty e v' xs.length cells) (r:ARs (ctx w g h) xs.flatten cells) (d:∀b,v'.ownBlock=some b->w.heap.size<=b):
  Good B w g h w' ⟨g.β,λj=>if j=i then v' else g.cur j⟩ (h.set i (.row ty e xs st))/\AR (ctx w' ⟨g.β,λj=>if j=i then v' else g.cur j⟩ (h.set i (.row ty e xs st))) (.tl i st) v':=by
 obtain ⟨A,t,o,_⟩:=ko a
 refine ⟨VB l hB f rfl c (λ_ _=>rfl) (λj m=>if_neg m) (λb c=>?_) (λn=>⟨q,p,cells,?_,ARs.le n _ _ r⟩),⟨A,_,t,o⟩,⟨.row ty e xs st,List.getElem?_set_self (j8 f),rfl⟩,λs k=>?_⟩
 ·simp only[Ob.blk,if_true] at c;exact d b c
 ·simp only[ctx,if_true];exact a
 ·simp[ctx,Ob.tok,List.getElem?_set_self (j8 f)] at k
  subst k
  exact ⟨Nat.le_refl _,λ_=>by simp[ctx]⟩
theorem xBa (f:HOk B w g h) (hB:B<=w.heap.size):
  Good B w g h (w.alloc (.map #[] 0)) ⟨λj=>if j=h.length then w.heap.size else g.β j,g.cur⟩ (h++[.mapo []])/\AR (ctx (w.alloc (.map #[] 0)) ⟨λj=>if j=h.length then w.heap.size else g.β j,g.cur⟩ (h++[.mapo []])) (.mp h.length) (.map (some w.heap.size)):=by
 have a:∀D,D<=w.heap.size->Below D w (w.alloc (.map #[] 0)):=λD i=>(Below.refl D w).alloc i _
 have c:∀j,j<h.length->(if j=h.length then w.heap.size else g.β j)=g.β j:=λj k=>if_neg (by omega)
 have e:∀b,(Ob.mapo []).blk ⟨λj=>if j=h.length then w.heap.size else g.β j,g.cur⟩ h.length=some b->w.heap.size<=b:=λb a=>by
  simp[Ob.blk] at a;omega
 have d:=Le.more (g:=g) (g':=⟨λj=>if j=h.length then w.heap.size else g.β j,g.cur⟩) (o:= .mapo []) (a _ (Nat.le_refl _)) c (λ_ _=>rfl) e
 refine ⟨⟨f.more (a _ (Nat.le_refl _)) c (λ_ _=>rfl) e d ⟨by simp[ctx];exact hB, #[],0,[],?_,List.Perm.refl _,rfl,List.nodup_nil⟩,d,a _ hB,by simp;omega⟩,⟨.mapo [],by simp,rfl⟩,by simp[ctx]⟩
 simp only[ctx,if_true]
 exact heap_alloc_new w _
theorem yYa (e:HOk B w g h) (hB:B<=w.heap.size) {i:Nat} (a:h[i]? =some .res):
  Good B w g h (w.alloc (.map #[] 0)) ⟨λj=>if j=i then w.heap.size else g.β j,g.cur⟩ (h.set i (.mapo []))/\AR (ctx (w.alloc (.map #[] 0)) ⟨λj=>if j=i then w.heap.size else g.β j,g.cur⟩ (h.set i (.mapo []))) (.mp i) (.map (some w.heap.size)):=by
 refine ⟨VB e hB a rfl ((Below.refl _ w).alloc (Nat.le_refl _) _) (λj c=>if_neg c) (λ_ _=>rfl) (λb d=>?_) (λf=>⟨?_, #[],0,[],?_,List.Perm.refl _,rfl,List.nodup_nil⟩),⟨.mapo [],List.getElem?_set_self (j8 a),rfl⟩,by simp[ctx]⟩
 ·simp[Ob.blk] at d;omega
 ·simp[ctx];exact hB
 ·simp only[ctx,if_true];exact heap_alloc_new w _
theorem yG (w:World) (b:Nat) (o:Obj):w.grownBy { w with heap:=w.heap.setIfInBounds b o } (some b):=
 ⟨rfl,rfl,rfl,by simp,λk _ a=>Array.getElem?_setIfInBounds_ne (λe=>a (by rw[e]))⟩
theorem Wh (j:HOk B w g h) (hB:B<=w.heap.size) {id:Nat} {l l2 l':List (AV × AV)} (i:h[id]? =some (.mapo l)) {es':Array MapEntry} {k':Nat} (o:l2.Perm l') (r:MapRel (ctx w g h) l2 es'.toList) (n:(es'.toList.map (·.key)).Nodup):
  Good B w g h { w with heap:=w.heap.setIfInBounds (g.β id) (.map es' k') } g (h.set id (.mapo l')):=by
 have d:=yG w (g.β id) (.map es' k')
 have e:=Le.turn (g':=g) (o':= .mapo l') i rfl d (λ_ _=>rfl) (λ_ _=>rfl) (λb a=> .inl a) (λ_=>⟨rfl,λs p=>by cases p⟩)
 obtain ⟨m,es,k,u,q,t,v,_⟩:=j.ok id _ i
 have f:g.β id<w.heap.size:=(Array.getElem?_eq_some_iff.1 q).1
 refine ⟨j.turn i d (λ_ _=>rfl) (λ_ _=>rfl) (λb a=> .inl a) e ⟨m,es',k',l2,?_,o,MapRel.le e _ _ r,n⟩,e,?_,by simpa using hB⟩
 ·show ({ w with heap:=w.heap.setIfInBounds (g.β id) (.map es' k') }:World).heap[g.β id]? =_
  simp[f]
 ·exact (Below.refl B w).grown d hB λk c=>by injection c with c;subst c;exact m
theorem Wi (f:HOk B w g h) (hB:B<=w.heap.size) (o:Obj) {ks:List AV} {us:List Value} (c:ARs (ctx w g h) ks us):Good B w g h (w.alloc o) g (h++[.raw w.heap.size o ks us]):=by
 have a:∀D,D<=w.heap.size->Below D w (w.alloc o):=λD i=>(Below.refl D w).alloc i _
 have e:∀b,(Ob.raw w.heap.size o ks us).blk g h.length=some b->w.heap.size<=b:=λb a=>by
  simp[Ob.blk] at a;omega
 have d:=Le.more (g:=g) (g':=g) (o:= .raw w.heap.size o ks us) (a _ (Nat.le_refl _)) (λ_ _=>rfl) (λ_ _=>rfl) e
 exact ⟨f.more (a _ (Nat.le_refl _)) (λ_ _=>rfl) (λ_ _=>rfl) e d ⟨hB,heap_alloc_new w _,ARs.le d _ _ c⟩,d,a _ hB,by simp;omega⟩
theorem Qd (j:HOk B w g h) (hB:B<=w.heap.size) {id l:Nat} {o:Obj} {ks:List AV} {us:List Value} (i:h[id]? =some (.raw l o ks us)) (o':Obj):
  Good B w g h { w with heap:=w.heap.setIfInBounds l o' } g (h.set id (.raw l o' ks us)):=by
 have d:=yG w l o'
 have e:=Le.turn (g':=g) (o':= .raw l o' ks us) i rfl d (λ_ _=>rfl) (λ_ _=>rfl) (λb a=> .inl a) (λ_=>⟨rfl,λs p=>by cases p⟩)
 obtain ⟨m,q,n⟩:=j.ok id _ i
 have f:l<w.heap.size:=(Array.getElem?_eq_some_iff.1 q).1
 refine ⟨j.turn i d (λ_ _=>rfl) (λ_ _=>rfl) (λb a=> .inl a) e ⟨m,?_,ARs.le e _ _ n⟩,e,?_,by simpa using hB⟩
 ·show ({ w with heap:=w.heap.setIfInBounds l o' }:World).heap[l]? =_
  simp[f]
 ·exact (Below.refl B w).grown d hB λk c=>by injection c with c;subst c;exact m
end
end Go.Proofs.YtigdlmpjijhpaaaGreat.Ax
