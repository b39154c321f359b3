/-
  Joined.
-/
import Derived.Below
import Derived.Laws.AppendOwn
import Derived.Laws.Tables
import Derived.Laws.Cells
import Derived.Laws.Slices
import Derived.Laws.StructEq
import Derived.DataElems
set_option linter.unusedSimpArgs false
set_option linter.unusedVariables false
namespace Go.Proofs.YtfmldcilgbbimaaGreat.Ax
open Go
inductive AV where
 | v (x:Value)
 | sl (e:Nat) (xs:List (List AV))
 | tl (id st:Nat)
 | em
 | vw (a:AV) (e i n:Nat)
 | ptr (id off:Nat)
 | ep (a:AV) (e i k:Nat)
 | mp (id:Nat)
 | ag (cs:List AV)
 | tup (cs:List AV)
 | fn (f:Fn) (first cs:List AV)
 | bad
structure Ctx where
 rd:Addr->Value->Prop
 n:Nat
 live:Nat->Prop
 β:Nat->Nat
 cur:Nat->Value
 tok:Nat->Option Nat
def Tok (c:Ctx) (id st:Nat) (u:Value):Prop:=c.live id/\∀s,c.tok id=some s->st<=s/\(st=s->u=c.cur id)
mutual
def AR (c:Ctx):AV->Value->Prop
 | .v x,u=>u=x
 | .sl e xs,u=>∃A k,u= .slice A xs.length k/\xs.length<=k/\ARows c A e 0 xs
 | .tl id st,u=>(∃A n k,u= .slice A n k)/\Tok c id st u
 | .em,u=>∃A k,u= .slice (some A) 0 k
 | .vw a e i n,u=>∃A m g d k,AR c a (.slice A m g)/\i+n<=m/\n<=k/\u= .slice d n k/\(0<n->∃h,A=some h/\d=some (h.add (i*e)))/\(i=0->(d=A∨d=A.map (·.add 0))/\k=g)
 | .ptr id off,u=>c.live id/\u= .pointer (some ⟨c.β id,off,none⟩)
 | .ep a e i k,u=>∃A m g,AR c a (.slice (some A) m g)/\i<m/\u= .pointer (some (A.add (i*e+k)))
 | .mp id,u=>c.live id/\u= .map (some (c.β id))
 | .ag b,u=>∃vs,u= .agg vs/\ARs c b vs.toList
 | .tup b,u=>∃vs,u= .tuple vs/\ARs c b vs.toList
 | .fn f j b,u=>∃us vs,u= .func f us vs/\ARs c j us.toList/\ARs c b vs.toList
 | .bad,_=>True
def ARs (c:Ctx):List AV->List Value->Prop
 | [],vs=>vs=[]
 | a::aZ,vs=>∃v r,vs=v::r/\AR c a v/\ARs c aZ r
def ARows (c:Ctx) (A:Option Addr) (e:Nat):Nat->List (List AV)->Prop
 | _,[]=>True
 | i,r::rs=>(r.length=e/\ACells c A (i*e) r)/\ARows c A e (i+1) rs
def ACells (c:Ctx) (A:Option Addr):Nat->List AV->Prop
 | _,[]=>True
 | k,a::aZ=>(∃b u,A=some b/\c.rd (b.add k) u/\AR c a u)/\ACells c A (k+1) aZ
end
structure Le (c c':Ctx):Prop where
 rd:∀a u,c.rd a u->c'.rd a u
 n:c.n<=c'.n
 live:∀i,c.live i->c'.live i
 β:∀i,c.live i->c'.β i=c.β i
 tok:∀i,c.live i->∀s,c'.tok i=some s->∃s0,c.tok i=some s0/\((s=s0/\c'.cur i=c.cur i)∨s0<s)
theorem Le.refl (c:Ctx):Le c c:=⟨λ_ _ h=>h,Nat.le_refl _,λ_ h=>h,λ_ _=>rfl,λ_ _ s h=>⟨s,h,.inl ⟨rfl,rfl⟩⟩⟩
theorem Le.trans {a b c:Ctx} (h:Le a b) (k:Le b c):Le a c:=
 ⟨λx u o=>k.rd x u (h.rd x u o),Nat.le_trans h.n k.n,λi d=>k.live i (h.live i d),λi d=>(k.β i (h.live i d)).trans (h.β i d),λi d s m=>by
  obtain ⟨j,p,l⟩:=k.tok i (h.live i d) s m
  obtain ⟨s0,q,g⟩:=h.tok i d j p
  refine ⟨s0,q,?_⟩
  rcases l with ⟨rfl,f⟩ | f
  ·rcases g with ⟨rfl,e⟩ | e
   ·exact .inl ⟨rfl,f.trans e⟩
   ·exact .inr e
  ·rcases g with ⟨rfl,_⟩ | e
   ·exact .inr f
   ·exact .inr (by omega)⟩
theorem Tok.le {c c':Ctx} (h:Le c c') {id st:Nat} {u:Value} (a:Tok c id st u):Tok c' id st u:=
 ⟨h.live id a.1,λs f=>by
  obtain ⟨s0,i,d⟩:=h.tok id a.1 s f
  obtain ⟨j,g⟩:=a.2 s0 i
  rcases d with ⟨rfl,b⟩ | b
  ·exact ⟨j,λe=>by rw[b];exact g e⟩
  ·exact ⟨by omega,λe=>by omega⟩⟩
mutual
theorem AR.le {c c':Ctx} (h:Le c c'):∀(a:AV) (u:Value),AR c a u->AR c' a u
 | .v _,_,e=>e
 | .sl e xs,u,⟨A,k,b,d,g⟩=>⟨A,k,b,d,ARows.le h A e 0 xs g⟩
 | .tl id st,u,b=>⟨b.1,Tok.le h b.2⟩
 | .em,_,b=>b
 | .vw a e i n,u,⟨A,m,l,p,k,b,d⟩=>⟨A,m,l,p,k,AR.le h a _ b,d⟩
 | .ptr id off,u,⟨b,d⟩=>⟨h.live id b,by rw[h.β id b];exact d⟩
 | .ep a e i k,u,⟨A,m,l,b,d,g⟩=>⟨A,m,l,AR.le h a _ b,d,g⟩
 | .mp id,u,⟨b,d⟩=>⟨h.live id b,by rw[h.β id b];exact d⟩
 | .ag j,u,⟨vs,b,d⟩=>⟨vs,b,ARs.le h j _ d⟩
 | .tup j,u,⟨vs,b,d⟩=>⟨vs,b,ARs.le h j _ d⟩
 | .fn f o j,u,⟨us,vs,b,d,g⟩=>⟨us,vs,b,ARs.le h o _ d,ARs.le h j _ g⟩
 | .bad,_,_=>True.intro
theorem ARs.le {c c':Ctx} (h:Le c c'):∀(aZ:List AV) (vs:List Value),ARs c aZ vs->ARs c' aZ vs
 | [],_,e=>e
 | a::aZ,vs,⟨v,r,f,b,d⟩=>⟨v,r,f,AR.le h a v b,ARs.le h aZ r d⟩
theorem ARows.le {c c':Ctx} (h:Le c c') (A:Option Addr) (e:Nat):∀(i:Nat) (rs:List (List AV)),ARows c A e i rs->ARows c' A e i rs
 | _,[],_=>True.intro
 | i,r::rs,⟨⟨d,a⟩,b⟩=>⟨⟨d,ACells.le h A (i*e) r a⟩,ARows.le h A e (i+1) rs b⟩
theorem ACells.le {c c':Ctx} (h:Le c c') (A:Option Addr):∀(k:Nat) (aZ:List AV),ACells c A k aZ->ACells c' A k aZ
 | _,[],_=>True.intro
 | k,a::aZ,⟨⟨d,u,f,b,g⟩,e⟩=>⟨⟨d,u,f,h.rd _ _ b,AR.le h a u g⟩,ACells.le h A (k+1) aZ e⟩
end
mutual
def AV.lt (n:Nat):AV->Bool
 | .v _=>true
 | .sl _ xs=>z6 n xs
 | .tl id _=>decide (id<n)
 | .em=>true
 | .vw a _ _ _=>a.lt n
 | .ptr id _=>decide (id<n)
 | .ep a _ _ _=>a.lt n
 | .mp id=>decide (id<n)
 | .ag b=>zP n b
 | .tup b=>zP n b
 | .fn _ c b=>zP n c && zP n b
 | .bad=>true
def zP (n:Nat):List AV->Bool
 | []=>true
 | a::aZ=>a.lt n && zP n aZ
def z6 (n:Nat):List (List AV)->Bool
 | []=>true
 | r::rs=>zP n r && z6 n rs
end
structure Less (n:Nat) (c c':Ctx):Prop where
 rd:∀a u,c.rd a u->c'.rd a u
 sz:c'.n=n
 live:∀i,i<n->c.live i->c'.live i
 β:∀i,i<n->c'.β i=c.β i
 tok:∀i,i<n->c'.tok i=c.tok i
 cur:∀i,i<n->c'.cur i=c.cur i
mutual
theorem AR.less {n:Nat} {c c':Ctx} (h:Less n c c'):∀(a:AV) (u:Value),a.lt n=true->AR c a u->AR c' a u
 | .v _,_,_,e=>e
 | .sl e xs,u,l,⟨A,k,b,d,j⟩=>⟨A,k,b,d,ARows.less h A e 0 xs (by simpa [AV.lt] using l) j⟩
 | .tl id st,u,l,b=>by
   have l:id<n:=by simpa [AV.lt] using l
   exact ⟨b.1,h.live id l b.2.1,λs p=>by rw[h.tok id l] at p;rw[h.cur id l];exact b.2.2 s p⟩
 | .em,_,_,b=>b
 | .vw a e i n,u,l,⟨A,m,o,r,k,b,d⟩=>⟨A,m,o,r,k,AR.less h a _ (by simpa [AV.lt] using l) b,d⟩
 | .ptr id off,u,l,⟨b,d⟩=>by
   have l:id<n:=by simpa [AV.lt] using l
   exact ⟨h.live id l b,by rw[h.β id l];exact d⟩
 | .ep a e i k,u,l,⟨A,m,o,b,d,j⟩=>⟨A,m,o,AR.less h a _ (by simpa [AV.lt] using l) b,d,j⟩
 | .mp id,u,l,⟨b,d⟩=>by
   have l:id<n:=by simpa [AV.lt] using l
   exact ⟨h.live id l b,by rw[h.β id l];exact d⟩
 | .ag g,u,l,⟨vs,b,d⟩=>⟨vs,b,ARs.less h g _ (by simpa [AV.lt] using l) d⟩
 | .tup g,u,l,⟨vs,b,d⟩=>⟨vs,b,ARs.less h g _ (by simpa [AV.lt] using l) d⟩
 | .fn f q g,u,l,⟨us,vs,b,d,j⟩=>by
   have l:zP n q=true/\zP n g=true:=by simpa [AV.lt] using l
   exact ⟨us,vs,b,ARs.less h q _ l.1 d,ARs.less h g _ l.2 j⟩
 | .bad,_,_,_=>True.intro
theorem ARs.less {n:Nat} {c c':Ctx} (h:Less n c c'):∀(aZ:List AV) (vs:List Value),zP n aZ=true->ARs c aZ vs->ARs c' aZ vs
 | [],_,_,e=>e
 | a::aZ,vs,l,⟨v,r,f,b,d⟩=>by
   have l:a.lt n=true/\zP n aZ=true:=by simpa [zP] using l
   exact ⟨v,r,f,AR.less h a v l.1 b,ARs.less h aZ r l.2 d⟩
theorem ARows.less {n:Nat} {c c':Ctx} (h:Less n c c') (A:Option Addr) (e:Nat):∀(i:Nat) (rs:List (List AV)),z6 n rs=true->ARows c A e i rs->ARows c' A e i rs
 | _,[],_,_=>True.intro
 | i,r::rs,l,⟨⟨d,a⟩,b⟩=>by
   have l:zP n r=true/\z6 n rs=true:=by simpa [z6] using l
   exact ⟨⟨d,ACells.less h A (i*e) r l.1 a⟩,ARows.less h A e (i+1) rs l.2 b⟩
theorem ACells.less {n:Nat} {c c':Ctx} (h:Less n c c') (A:Option Addr):∀(k:Nat) (aZ:List AV),zP n aZ=true->ACells c A k aZ->ACells c' A k aZ
 | _,[],_,_=>True.intro
 | k,a::aZ,l,⟨⟨d,u,f,b,g⟩,e⟩=>by
   have l:a.lt n=true/\zP n aZ=true:=by simpa [zP] using l
   exact ⟨⟨d,u,f,h.rd _ _ b,AR.less h a u l.1 g⟩,ACells.less h A (k+1) aZ l.2 e⟩
end
end Go.Proofs.YtfmldcilgbbimaaGreat.Ax
namespace Go.Proofs.YtfmldcilgbbimaaGreat.Ax
open Go Go.RowKit
inductive Ob where
 | box (ty:TypeId) (cs:List AV)
 | row (ty e:Nat) (xs:List (List AV)) (st:Nat)
 | mapo (es:List (AV × AV))
 | raw (l:Nat) (o:Obj) (ks:List AV) (us:List Value)
 | gone
 | res
def Ob.isRes:Ob->Bool
 | .res=>true
 | _=>false
structure Gh where
 β:Nat->Nat
 cur:Nat->Value
def Ob.blk (g:Gh) (i:Nat):Ob->Option Nat
 | .box _ _=>some (g.β i)
 | .row _ _ _ _=>(g.cur i).ownBlock
 | .mapo _=>some (g.β i)
 | .raw l _ _ _=>some l
 | .gone | .res=>none
def kept (g:Gh) (h:List Ob) (b:Nat):Prop:=∃(i:Nat) (o:Ob),h[i]? =some o/\o.blk g i=some b
def Ob.tok:Option Ob->Option Nat
 | some (.row _ _ _ st)=>some st
 | _=>none
def ctx (w:World) (g:Gh) (h:List Ob):Ctx:=
 { rd:=λa u=>¬ kept g h a.block/\w.cell? a=some u
   n:=h.length
   live:=λi=>∃o,h[i]? =some o/\o.isRes=false
   β:=g.β
   cur:=g.cur
   tok:=λi=>Ob.tok h[i]? }
def MapRel (c:Ctx):List (AV × AV)->List MapEntry->Prop
 | [],es=>es=[]
 | (k,v)::r,es=>∃e q,es=e::q/\AR c k e.key/\AR c v e.val/\MapRel c r q
theorem MapRel.le {c c':Ctx} (h:Le c c'):∀(l:List (AV × AV)) (es:List MapEntry),MapRel c l es->MapRel c' l es
 | [],_,e=>e
 | (_,_)::r,_,⟨e,q,b,a,d,f⟩=>⟨e,q,b,AR.le h _ _ a,AR.le h _ _ d,MapRel.le h r q f⟩
def Ob.ok (B:Nat) (w:World) (c:Ctx) (i:Nat):Ob->Prop
 | .box ty a=>B<=c.β i/\∃vs,w.heap[c.β i]? =some (.cells vs ty (0,0))/\ARs c a vs.toList
 | .row ty e xs _=>0<e/\(∀x∈xs,x.length=e)/\∃cells,w.ownsRow B ty e (c.cur i) xs.length cells/\ARs c xs.flatten cells
 | .mapo l=>B<=c.β i/\∃es k l',w.heap[c.β i]? =some (.map es k)/\l'.Perm l/\MapRel c l' es.toList/\(es.toList.map (·.key)).Nodup
 | .raw l o ks us=>B<=l/\w.heap[l]? =some o/\ARs c ks us
 | .gone | .res=>True
structure HOk (B:Nat) (w:World) (g:Gh) (h:List Ob):Prop where
 ok:∀(i:Nat) (o:Ob),h[i]? =some o->o.ok B w (ctx w g h) i
 apart:∀(i j:Nat) (o p:Ob) (b:Nat),i≠j->h[i]? =some o->h[j]? =some p->o.blk g i=some b->p.blk g j≠some b
section
variable {B:Nat} {w w':World} {g g':Gh} {h h':List Ob} {i:Nat} {o o':Ob}
theorem ZEa {c:Ctx} (h:o.ok B w c i) (j:c.β=g.β) (m:c.cur=g.cur) {b:Nat} (a:o.blk g i=some b):B<=b/\b<w.heap.size:=by
 cases o with
 | box ty n=>
   obtain ⟨f,vs,d,_⟩:=h
   rw[j] at f d
   injection a with a
   subst a
   exact ⟨f,(Array.getElem?_eq_some_iff.1 d).1⟩
 | row ty e xs st=>
   obtain ⟨_,_,cells,d,_⟩:=h
   rw[m] at d
   exact World.ownsRow.lt d b a
 | mapo l=>
   obtain ⟨f,vs,k,l',d,_⟩:=h
   rw[j] at f d
   injection a with a
   subst a
   exact ⟨f,(Array.getElem?_eq_some_iff.1 d).1⟩
 | raw l o ks us=>
   obtain ⟨f,d,_⟩:=h
   injection a with a
   subst a
   exact ⟨f,(Array.getElem?_eq_some_iff.1 d).1⟩
 | gone=>cases a
 | res=>cases a
theorem HOk.lt (k:HOk B w g h) (a:h[i]? =some o) {b:Nat} (c:o.blk g i=some b):B<=b/\b<w.heap.size:=ZEa (k.ok i o a) rfl rfl c
theorem Vo {D:Nat} {e:TypeId} {size:Nat} {v:Value} {k:Nat} {xs:List Value} (h:w.ownsRow D e size v k xs) (c:∀b,v.ownBlock=some b->w'.heap[b]? =w.heap[b]?):w'.ownsRow D e size v k xs:=by
 refine ⟨h.1,?_⟩
 rcases h.2 with a | ⟨g,cap,cur,f,d,i,r⟩
 ·exact .inl a
 ·subst f
  exact .inr ⟨g,cap,cur,rfl,d,(c g rfl).trans i,r⟩
theorem Ob.ok_le {c c':Ctx} (a:o.isRes=false->c.live i) (f:o.ok B w c i) (d:Le c c') (s:c'.cur i=c.cur i) (r:c.β=g.β) (p:c.cur=g.cur) (n:∀b,o.blk g i=some b->w'.heap[b]? =w.heap[b]?):o.ok B w' c' i:=by
 cases o with
 | box ty x=>
   obtain ⟨j,vs,h,m⟩:=f
   have a:=a rfl
   refine ⟨by rw[d.β i a];exact j,vs,?_,ARs.le d _ _ m⟩
   rw[d.β i a]
   exact (n _ (by rw[r];rfl)).trans h
 | row ty e xs st=>
   obtain ⟨j,u,cells,h,m⟩:=f
   refine ⟨j,u,cells,?_,ARs.le d _ _ m⟩
   rw[s]
   exact Vo h λb q=>n b (by rw[p] at q;exact q)
 | mapo l=>
   obtain ⟨j,vs,k,l',h,t,m,v⟩:=f
   have a:=a rfl
   refine ⟨by rw[d.β i a];exact j,vs,k,l',?_,t,MapRel.le d _ _ m,v⟩
   rw[d.β i a]
   exact (n _ (by rw[r];rfl)).trans h
 | raw l o ks us=>exact ⟨f.1,(n _ rfl).trans f.2.1,ARs.le d _ _ f.2.2⟩
 | gone=>trivial
 | res=>trivial
theorem Le.ext (c:Below w.heap.size w w'):Le (ctx w g h) (ctx w' g h):=
 ⟨λa _ b=>⟨b.1,(World.cell?_of_block (w:=w) (c.block a.block (World.block_lt_of_cell? w a b.2))).trans b.2⟩,Nat.le_refl _,λ_ h=>h,λ_ _=>rfl,λ_ _ s d=>⟨s,d,.inl ⟨rfl,rfl⟩⟩⟩
theorem jY (a:h[i]? =some o):i<h.length:=(List.getElem?_eq_some_iff.1 a).1
theorem Vp (a:h[i]? =some o) (b:o.isRes=false):(ctx w g h).live i:=⟨o,a,b⟩
theorem HOk.ext (k:HOk B w g h) (c:Below w.heap.size w w'):HOk B w' g h:=
 ⟨λi o a=>Ob.ok_le (g:=g) (Vp a) (k.ok i o a) (Le.ext c) rfl rfl rfl λb d=>c.block b (k.lt a d).2,k.apart⟩
theorem ZZ {j:Nat} {p:Ob} (a:g'.β j=g.β j) (b:g'.cur j=g.cur j):p.blk g' j=p.blk g j:=by
 cases p with
 | box ty c=>exact congrArg some a
 | row ty e n st=>exact congrArg Value.ownBlock b
 | mapo _=>exact congrArg some a
 | raw _ _ _ _=>rfl
 | gone=>rfl
 | res=>rfl
theorem Le.turn (q:h[i]? =some o) (z:o'.isRes=false) (F:w.grownBy w' (o.blk g i)) (D:∀j,j≠i->g'.β j=g.β j) (C:∀j,j≠i->g'.cur j=g.cur j)
  (E:∀b,o'.blk g' i=some b->o.blk g i=some b∨w.heap.size<=b)
  (r:o.isRes=false->g'.β i=g.β i/\∀s,Ob.tok (some o')=some s->∃s0,Ob.tok (some o)=some s0/\((s=s0/\g'.cur i=g.cur i)∨s0<s)):Le (ctx w g h) (ctx w' g' (h.set i o')):=by
 have m:=jY q
 have d:∀j,j=i->(ctx w g h).live j->o.isRes=false:=λj e ⟨p,f,n⟩=>by
  subst e;rw[q] at f;injection f with f;subst f;exact n
 refine ⟨λa u G=>?_,by simp[ctx],λj ⟨p,k,t⟩=>?_,λj x=>?_,λj x s A=>?_⟩
 ·obtain ⟨f,n⟩:=G
  have y:=World.block_lt_of_cell? w a n
  refine ⟨λ⟨j,p,k,l⟩=>?_,?_⟩
  ·by_cases c:j=i
   ·subst c
    rw[List.getElem?_set_self m] at k
    injection k with k
    subst k
    rcases E _ l with B | B
    ·exact f ⟨j,o,q,B⟩
    ·omega
   ·rw[List.getElem?_set_ne (λe=>c e.symm)] at k
    exact f ⟨j,p,k,by rw[ZZ (D j c) (C j c)] at l;exact l⟩
  ·exact (World.cell?_of_block (w:=w) (F.block a.block y (λe=>f ⟨i,o,q,e.symm⟩))).trans n
 ·by_cases c:j=i
  ·subst c;exact ⟨o',List.getElem?_set_self m,z⟩
  ·exact ⟨p,by rw[List.getElem?_set_ne (λe=>c e.symm)];exact k,t⟩
 ·by_cases c:j=i
  ·have:=(r (d j c x)).1
   rw[c];exact this
  ·exact D j c
 ·by_cases c:j=i
  ·have r:=(r (d j c x)).2
   subst c
   have v:Ob.tok (some o')=some s:=by
    have:=A
    simp only[ctx,List.getElem?_set_self m] at this
    exact this
   obtain ⟨s0,f,n⟩:=r s v
   exact ⟨s0,by simp only[ctx,q];exact f,n⟩
  ·refine ⟨s,?_,.inl ⟨rfl,C j c⟩⟩
   have:=A
   simp only[ctx,List.getElem?_set_ne (λe=>c e.symm)] at this
   exact this
theorem HOk.turn (k:HOk B w g h) (x:h[i]? =some o) (C:w.grownBy w' (o.blk g i)) (F:∀j,j≠i->g'.β j=g.β j) (A:∀j,j≠i->g'.cur j=g.cur j)
  (E:∀b,o'.blk g' i=some b->o.blk g i=some b∨w.heap.size<=b) (D:Le (ctx w g h) (ctx w' g' (h.set i o'))) (G:o'.ok B w' (ctx w' g' (h.set i o')) i):HOk B w' g' (h.set i o'):=by
 have s:=jY x
 have f:∀(j:Nat) (p:Ob),j≠i->p.blk g' j=p.blk g j:=λj p z=>ZZ (F j z) (A j z)
 refine ⟨λj p a=>?_,λu t p q b v a m c l=>?_⟩
 ·by_cases d:j=i
  ·subst d
   rw[List.getElem?_set_self s] at a
   injection a with a
   subst a
   exact G
  ·rw[List.getElem?_set_ne (λe=>d e.symm)] at a
   refine Ob.ok_le (g:=g) (Vp a) (k.ok j p a) D (A j d) rfl rfl λb y=>?_
   exact C.block b (k.lt a y).2 λe=>k.apart j i p o b d a x y e.symm
 ·have key:∀(j:Nat) (p:Ob) (b:Nat),j≠i->h[j]? =some p->p.blk g j=some b->o'.blk g' i≠some b:=λj p b d a c e=>by
   rcases E b e with r | r
   ·exact k.apart j i p o b d a x c r
   ·have:=(k.lt a c).2;omega
  by_cases r:u=i
  ·subst r
   have n:t≠u:=λe=>v e.symm
   rw[List.getElem?_set_self s] at a
   injection a with a
   subst a
   rw[List.getElem?_set_ne (λe=>n e.symm)] at m
   rw[f t q n] at l
   exact key t q b n m l c
  ·rw[List.getElem?_set_ne (λe=>r e.symm)] at a
   rw[f u p r] at c
   by_cases n:t=i
   ·subst n
    rw[List.getElem?_set_self s] at m
    injection m with m
    subst m
    exact key u p b r a c l
   ·rw[List.getElem?_set_ne (λe=>n e.symm)] at m
    rw[f t q n] at l
    exact k.apart u t p q b v a m c l
theorem Z0 {j:Nat} {p:Ob} (a:(h++[o])[j]? =some p):(j<h.length/\h[j]? =some p)∨(j=h.length/\p=o):=by
 rcases Nat.lt_or_ge j h.length with b | b
 ·rw[List.getElem?_append_left b] at a;exact .inl ⟨b,a⟩
 ·rw[List.getElem?_append_right b] at a
  have c:j - h.length=0:=by
   rcases Nat.eq_zero_or_pos (j - h.length) with e | e
   ·exact e
   ·rw[List.getElem?_eq_none (by simp;omega)] at a;cases a
  rw[c] at a
  injection a with a
  exact .inr ⟨by omega,a.symm⟩
theorem Le.more (q:Below w.heap.size w w') (n:∀j,j<h.length->g'.β j=g.β j) (l:∀j,j<h.length->g'.cur j=g.cur j) (v:∀b,o.blk g' h.length=some b->w.heap.size<=b):Le (ctx w g h) (ctx w' g' (h++[o])):=by
 have m:∀j,(ctx w g h).live j->j<h.length:=λj ⟨p,d,_⟩=>jY d
 refine ⟨λa u t=>?_,by simp[ctx],λj ⟨p,d,f⟩=>⟨p,by rw[List.getElem?_append_left (jY d)];exact d,f⟩,λj c=>n j (m j c),λj c s r=>?_⟩
 ·obtain ⟨x,k⟩:=t
  have i:=World.block_lt_of_cell? w a k
  refine ⟨λ⟨j,p,d,e⟩=>?_,(World.cell?_of_block (w:=w) (q.block a.block i)).trans k⟩
  rcases Z0 d with ⟨c,d⟩ | ⟨rfl,rfl⟩
  ·exact x ⟨j,p,d,by rw[ZZ (n j c) (l j c)] at e;exact e⟩
  ·have:=v _ e
   omega
 ·have c:=m j c
  refine ⟨s,?_,.inl ⟨rfl,l j c⟩⟩
  have:=r
  simp only[ctx,List.getElem?_append_left c] at this
  exact this
theorem HOk.more (k:HOk B w g h) (z:Below w.heap.size w w') (A:∀j,j<h.length->g'.β j=g.β j) (u:∀j,j<h.length->g'.cur j=g.cur j)
  (i:∀b,o.blk g' h.length=some b->w.heap.size<=b) (y:Le (ctx w g h) (ctx w' g' (h++[o]))) (D:o.ok B w' (ctx w' g' (h++[o])) h.length):HOk B w' g' (h++[o]):=by
 have a:∀(j:Nat) (p:Ob),j<h.length->p.blk g' j=p.blk g j:=λj p n=>ZZ (A j n) (u j n)
 refine ⟨λj p f=>?_,λt s p q b m f v d c=>?_⟩
 ·rcases Z0 f with ⟨n,f⟩ | ⟨rfl,rfl⟩
  ·exact Ob.ok_le (g:=g) (Vp f) (k.ok j p f) y (u j n) rfl rfl λb x=>z.block b (k.lt f x).2
  ·exact D
 ·rcases Z0 f with ⟨C,l⟩ | ⟨rfl,rfl⟩
  ·rw[a t p C] at d
   rcases Z0 v with ⟨r,e⟩ | ⟨rfl,rfl⟩
   ·rw[a s q r] at c
    exact k.apart t s p q b m l e d c
   ·have:=i b c
    have:=(k.lt l d).2
    omega
  ·rcases Z0 v with ⟨r,e⟩ | ⟨rfl,rfl⟩
   ·rw[a s q r] at c
    have:=i b d
    have:=(k.lt e c).2
    omega
   ·exact m rfl
def Kj (n:Nat):Ob->Bool
 | .box _ a=>zP n a
 | .row _ _ xs _=>z6 n xs
 | .mapo es=>es.all λx=>x.1.lt n && x.2.lt n
 | .raw _ _ ks _=>zP n ks
 | .gone | .res=>true
theorem Zn (n:Nat):∀(a b:List AV),zP n a=true->zP n b=true->zP n (a++b)=true
 | [],_,_,h=>h
 | x::a,b,h,k=>by
   have h:x.lt n=true/\zP n a=true:=by simpa [zP] using h
   simp[zP,h.1,Zn n a b h.2 k]
theorem yx (n:Nat):∀(xs:List (List AV)),z6 n xs=true->zP n xs.flatten=true
 | [],_=>rfl
 | r::rs,h=>by
   have h:zP n r=true/\z6 n rs=true:=by simpa [z6] using h
   exact Zn n r _ h.1 (yx n rs h.2)
theorem xW (w:World) (g:Gh) (h L:List Ob):Less h.length (ctx w g (h++L)) (ctx w g h):=
 { rd:=λa u d=>⟨λ⟨j,p,c,k⟩=>d.1 ⟨j,p,by rw[List.getElem?_append_left (jY c)];exact c,k⟩,d.2⟩
   sz:=rfl
   live:=λi b ⟨o,e,f⟩=>⟨o,by rw[List.getElem?_append_left b] at e;exact e,f⟩
   β:=λ_ _=>rfl
   tok:=λi b=>by show Ob.tok _=Ob.tok _;rw[List.getElem?_append_left b]
   cur:=λ_ _=>rfl }
theorem MapRel.less {n:Nat} {c c':Ctx} (h:Less n c c'):∀(l:List (AV × AV)) (es:List MapEntry),(l.all λx=>x.1.lt n && x.2.lt n)=true->MapRel c l es->MapRel c' l es
 | [],_,_,e=>e
 | (a,b)::r,_,d,⟨e,q,i,f,j,g⟩=>by
   simp only[List.all_cons,Bool.and_eq_true] at d
   exact ⟨e,q,i,AR.less h _ _ d.1.1 f,AR.less h _ _ d.1.2 j,MapRel.less h r q d.2 g⟩
theorem HOk.take {L:List Ob} (k:HOk B w g (h++L)) (z:∀o∈h,Kj h.length o=true):HOk B w g h:=by
 have up:∀(j:Nat) (p:Ob),h[j]? =some p->(h++L)[j]? =some p:=λj p f=>by rw[List.getElem?_append_left (jY f)];exact f
 refine ⟨λi o r=>?_,λi j o p b s r y=>k.apart i j o p b s (up i o r) (up j p y)⟩
 have c:=k.ok i o (up i o r)
 have a:=z o (List.mem_of_getElem? r)
 have q:=xW w g h L
 cases o with
 | box ty A=>
   obtain ⟨m,vs,d,n⟩:=c
   exact ⟨m,vs,d,ARs.less q _ _ a n⟩
 | row ty e xs st=>
   obtain ⟨m,t,cells,d,n⟩:=c
   exact ⟨m,t,cells,d,ARs.less q _ _ (yx _ _ a) n⟩
 | mapo l=>
   obtain ⟨m,vs,k,l',d,f,n,v⟩:=c
   refine ⟨m,vs,k,l',d,f,MapRel.less q _ _ ?_ n,v⟩
   have a:(l.all λx=>x.1.lt h.length && x.2.lt h.length)=true:=a
   rw[List.all_eq_true] at a⊢
   exact λx u=>a x (f.mem_iff.1 u)
 | raw l o ks us=>exact ⟨c.1,c.2.1,ARs.less q _ _ a c.2.2⟩
 | gone=>trivial
 | res=>trivial
def Z1 (φ:Nat->Ob) (i:Nat) (o:Ob):Ob:=if o.isRes then φ i else o
def fill (φ:Nat->Ob) (h:List Ob):List Ob:=h.mapIdx (Z1 φ)
def Upto (φ:Nat->Ob) (n:Nat):Prop:=∀i,n<=i->φ i= .res
theorem Upto.mono {φ:Nat->Ob} {n m:Nat} (k:Upto φ n) (h:n<=m):Upto φ m:=λi a=>k i (Nat.le_trans h a)
variable {φ:Nat->Ob}
theorem qc:(fill φ h).length=h.length:=by simp[fill]
theorem xJ:(fill φ h)[i]? =h[i]?.map (Z1 φ i):=by simp[fill]
theorem zK (a:h[i]? =some o) (b:o.isRes=false):(fill φ h)[i]? =some o:=by
 rw[xJ,a];simp[Z1,b]
theorem qS (c:o.isRes=false):fill φ (h.set i o)=(fill φ h).set i o:=by
 apply List.ext_getElem?
 intro j
 rw[xJ]
 by_cases a:i=j
 ·subst a
  by_cases b:i<h.length
  ·rw[List.getElem?_set_self b,List.getElem?_set_self (by rw[qc];exact b)];simp[Z1,c]
  ·rw[List.getElem?_eq_none (by simp;omega),List.getElem?_eq_none (by simp[qc];omega)];rfl
 ·rw[List.getElem?_set_ne a,List.getElem?_set_ne a,xJ]
theorem q8 {L:List Ob} (b:Upto φ h.length):fill φ (h++L)=fill φ h++L:=by
 apply List.ext_getElem?
 intro j
 rw[xJ]
 by_cases a:j<h.length
 ·rw[List.getElem?_append_left a,List.getElem?_append_left (by rw[qc];exact a),xJ]
 ·rw[List.getElem?_append_right (by omega),List.getElem?_append_right (by rw[qc];omega),qc]
  cases d:L[j - h.length]? with
  | none=>rfl
  | some o=>
    simp only[Option.map_some,Z1]
    split
    ·rename_i c
     rw[b j (by omega)]
     cases o<;>first | rfl | cases c
    ·rfl
theorem KA:fill (λ_=> .res) h=h:=by
 apply List.ext_getElem?
 intro j
 rw[xJ]
 cases h[j]? with
 | none=>rfl
 | some o=>simp only[Option.map_some,Z1];cases o<;>rfl
def ResK (h h':List Ob):Prop:=∀i:Nat,h[i]? =some Ob.res->h'[i]? =some Ob.res
theorem ResK.refl:ResK h h:=λ_ k=>k
theorem ResK.trans {h'':List Ob} (a:ResK h h') (b:ResK h' h''):ResK h h'':=λi k=>b i (a i k)
theorem zJ (b:h[i]? =some o) (c:o.isRes=false):ResK h (h.set i o'):=λj a=>by
 by_cases e:i=j
 ·subst e;rw[b] at a;injection a with a;subst a;cases c
 ·rw[List.getElem?_set_ne e];exact a
theorem zT {L:List Ob}:ResK h (h++L):=λj a=>by
 rw[List.getElem?_append_left (List.getElem?_eq_some_iff.1 a).1];exact a
end
inductive K where
 | int (k:IntKind) | bool | str | slice (e:TypeId) | struct (fs:List (Nat × TypeId)) | arr (n:Nat) (e:TypeId) | ptr (e:TypeId) | mapk (k e:TypeId) | other
structure Ty where
 ok:Bool
 agg:Bool
 sz:Nat
 bytes:Nat
 zero:Option (List Value)
 one:Bool
 kind:K
def z7a:TypeDesc->Bool
 | .struct _ | .array _ _=>true
 | _=>false
def kOf:TypeDesc->K
 | .int k=> .int k
 | .bool=> .bool
 | .string=> .str
 | .slice e=> .slice e
 | .struct a=> .struct (a.toList.map λf=>(f.offset,f.type))
 | .array n e=> .arr n e
 | .pointer e=> .ptr e
 | .map k e=> .mapk k e
 | _=> .other
def w4a:Option Value->Bool
 | some v=>v.oneCell'
 | none=>false
def zi (P:Program) (t:TypeId):Ty:=
 match P.underlying t,P.info? t with
 | some d,some i=>⟨true,z7a d,i.size,i.bytes,i.zero.map λv=>v.cells.toList,w4a i.zero,kOf d⟩
 | _,_=>⟨false,false,0,0,none,false,.other⟩
theorem qa {P:Program} {t:TypeId} (h:(zi P t).ok=true):∃d i,P.underlying t=some d/\P.info? t=some i/\zi P t=⟨true,z7a d,i.size,i.bytes,i.zero.map λv=>v.cells.toList,w4a i.zero,kOf d⟩:=by
 cases a:P.underlying t with
 | none=>rw[zi,a] at h;exact absurd h (by simp)
 | some d=>
   cases b:P.info? t with
   | none=>rw[zi,a,b] at h;exact absurd h (by simp)
   | some i=>exact ⟨d,i,rfl,rfl,by rw[zi,a,b]⟩
def nth:List AV->Nat->AV
 | [],_=> .bad
 | a::_,0=>a
 | _::r,n+1=>nth r n
def cut:List AV->Nat->Nat->Option (List AV)
 | _,0,0=>some []
 | [],_,_=>none
 | a::r,0,n+1=>(cut r 0 n).map (a:: ·)
 | _::r,k+1,n=>cut r k n
def lay:List AV->Nat->List AV->Option (List AV)
 | b,0,[]=>some b
 | [],_,_=>none
 | _::r,0,v::vs=>(lay r 0 vs).map (v:: ·)
 | a::r,k+1,vs=>(lay r k vs).map (a:: ·)
def ofV:Value->AV
 | .agg a=> .ag (a.toList.map .v)
 | x=> .v x
def ev (T:Nat->AV):Operand->AV
 | .tmp i=>T i
 | .const x=>ofV x
 | .func f=> .fn (.func f) [] []
 | .global _=> .bad
def AV.one:AV->Bool
 | .v x=>x.oneCell'
 | .ag _ | .tup _ | .bad=>false
 | _=>true
def AV.cells:AV->Option (List AV)
 | .ag b=>if b.all AV.one then some b else none
 | .tup _ | .bad=>none
 | .v x=>if x.oneCell' then some [.v x] else none
 | a=>some [a]
def part (a:List AV) (k:Nat) (agg:Bool) (n:Nat):Option AV:=
 if agg then (cut a k n).map .ag else if k<a.length then some (nth a k) else none
def eOf (h:List Ob):AV->Option Nat
 | .sl e _=>some e
 | .tl id _=>match h[id]? with
   | some (.row _ e _ _)=>some e
   | _=>none
 | .vw a e _ _=>(eOf h a).bind λb=>if b=e then some e else none
 | _=>none
def zo (h:List Ob):AV->Option (List (List AV))
 | .sl _ xs=>some xs
 | .tl id st=>match h[id]? with
   | some (.row _ _ xs s)=>if s=st then some xs else none
   | _=>none
 | .vw a e i n=>(zo h a).bind λxs=>if i+n<=xs.length/\(n=0∨eOf h a=some e) then some ((xs.drop i).take n) else none
 | .v (.slice none 0 _)=>some []
 | .em=>some []
 | _=>none
section
variable {c:Ctx}
theorem xr:∀ {aZ:List AV} {vs:List Value},ARs c aZ vs->aZ.length=vs.length
 | [],vs,e=>by have e:vs=[]:=e;rw[e];rfl
 | a::aZ,vs,⟨v,r,b,_,d⟩=>by rw[b];simp[xr d]
theorem kF:∀ {aZ:List AV} {vs:List Value},ARs c aZ vs->∀i,i<aZ.length->∃u,vs[i]? =some u/\AR c (nth aZ i) u
 | a::aZ,vs,⟨v,r,b,d,e⟩,0,_=>⟨v,by rw[b];rfl,d⟩
 | a::aZ,vs,⟨v,r,b,d,e⟩,i+1,g=>by
   obtain ⟨u,h,f⟩:=kF e i (by simpa using g)
   exact ⟨u,by rw[b];exact h,f⟩
theorem Z2:∀ {aZ:List AV} {i:Nat} {a:AV},aZ[i]? =some a->nth aZ i=a
 | [],_,_,h=>by cases h
 | x::aZ,0,a,h=>by injection h
 | x::aZ,i+1,a,h=>Z2 (aZ:=aZ) (i:=i) h
theorem vW:∀ {aZ:List AV} {i:Nat},i<aZ.length->aZ[i]? =some (nth aZ i)
 | x::aZ,0,_=>rfl
 | x::aZ,i+1,h=>vW (aZ:=aZ) (i:=i) (by simpa using h)
theorem Z3:∀(vs:List Value),ARs c (vs.map .v) vs
 | []=>rfl
 | v::r=>⟨v,r,rfl,rfl,Z3 r⟩
theorem xX:∀ {aZ b:List AV} {us vs:List Value},ARs c aZ us->ARs c b vs->ARs c (aZ++b) (us++vs)
 | [],b,us,vs,e,h=>by have e:us=[]:=e;subst e;exact h
 | a::aZ,b,us,vs,⟨u,r,g,d,f⟩,h=>by subst g;exact ⟨u,r++vs,rfl,d,xX f h⟩
theorem ywa (x:Value):AR c (ofV x) x:=by
 unfold ofV
 split
 ·exact ⟨_,rfl,Z3 _⟩
 ·rfl
theorem Vq:∀ {aZ:List AV} {vs:List Value},ARs c aZ vs->∀(k n:Nat) {rs:List AV},cut aZ k n=some rs->ARs c rs ((vs.drop k).take n)/\k+n<=vs.length/\rs.length=n
 | [],vs,e,0,0,rs,h=>by have e:vs=[]:=e;cases h;rw[e];exact ⟨rfl,Nat.le_refl _,rfl⟩
 | [],_,_,k+1,n,rs,h=>by cases h
 | [],_,_,0,n+1,rs,h=>by cases h
 | a::aZ,vs,_,0,0,rs,h=>by cases h;simp[ARs]
 | a::aZ,vs,⟨u,r,f,j,i⟩,0,n+1,rs,h=>by
   unfold cut at h
   cases b:cut aZ 0 n with
   | none=>rw[b] at h;cases h
   | some q=>
     rw[b] at h
     injection h with h
     subst h
     subst f
     obtain ⟨g,l,d⟩:=Vq i 0 n b
     exact ⟨⟨u,_,rfl,j,g⟩,by simp;omega,by simp[d]⟩
 | a::aZ,vs,⟨u,r,f,j,i⟩,k+1,n,rs,h=>by
   unfold cut at h
   subst f
   obtain ⟨g,l,d⟩:=Vq i k n h
   exact ⟨g,by simp;omega,d⟩
theorem Z4:∀ {aZ:List AV} {vs:List Value},ARs c aZ vs->∀(k:Nat) {ns rs:List AV} {us:List Value},ARs c ns us->lay aZ k ns=some rs->ARs c rs (vs.take k++us++vs.drop (k+us.length))/\k+us.length<=vs.length
 | aZ,vs,h,0,[],rs,us,d,e=>by
   have d:us=[]:=d
   subst d
   have:lay aZ 0 []=some aZ:=by cases aZ<;>rfl
   rw[this] at e
   cases e
   exact ⟨by simpa using h,by simp⟩
 | [],vs,e,k+1,ns,rs,us,d,h=>by cases h
 | [],vs,e,0,n::ns,rs,us,d,h=>by cases h
 | a::aZ,vs,⟨u,r,f,m,l⟩,0,n::ns,rs,us,⟨x,s,p,i,g⟩,h=>by
   unfold lay at h
   cases b:lay aZ 0 ns with
   | none=>rw[b] at h;cases h
   | some q=>
     rw[b] at h
     injection h with h
     subst h
     subst f
     subst p
     obtain ⟨j,o⟩:=Z4 l 0 g b
     exact ⟨⟨x,_,rfl,i,by simpa using j⟩,by simp;omega⟩
 | a::aZ,vs,⟨u,r,f,m,l⟩,k+1,ns,rs,us,d,h=>by
   unfold lay at h
   cases b:lay aZ k ns with
   | none=>rw[b] at h;cases h
   | some q=>
     rw[b] at h
     injection h with h
     subst h
     subst f
     obtain ⟨j,o⟩:=Z4 l k d b
     refine ⟨⟨u,_,rfl,m,?_⟩,by simp;omega⟩
     rw[show k+1+us.length=(k+us.length)+1 by omega]
     exact j
theorem JJ:∀ {aZ:List AV} {k:Nat} {ns rs:List AV},lay aZ k ns=some rs->rs.length=aZ.length
 | aZ,0,[],rs,h=>by
   have:lay aZ 0 []=some aZ:=by cases aZ<;>rfl
   rw[this] at h;cases h;rfl
 | [],k+1,ns,rs,h=>by cases h
 | [],0,n::ns,rs,h=>by cases h
 | a::aZ,0,n::ns,rs,h=>by
   unfold lay at h
   cases b:lay aZ 0 ns with
   | none=>rw[b] at h;cases h
   | some q=>rw[b] at h;injection h with h;subst h;simp[JJ b]
 | a::aZ,k+1,ns,rs,h=>by
   unfold lay at h
   cases b:lay aZ k ns with
   | none=>rw[b] at h;cases h
   | some q=>rw[b] at h;injection h with h;subst h;simp[JJ b]
theorem V5:∀ {a:AV} {u:Value},a.one=true->AR c a u->u.oneCell'=true/\u.cells= #[u]
 | .v x,u,h,e=>by
   have e:u=x:=e
   subst e
   refine ⟨h,?_⟩
   cases u<;>first | rfl | cases h
 | .sl _ _,u,_,⟨A,k,e,_⟩=>by subst e;exact ⟨rfl,rfl⟩
 | .ptr _ _,u,_,⟨_,e⟩=>by subst e;exact ⟨rfl,rfl⟩
 | .mp _,u,_,⟨_,e⟩=>by subst e;exact ⟨rfl,rfl⟩
 | .ep _ _ _ _,u,_,⟨A,m,b,_,_,e⟩=>by subst e;exact ⟨rfl,rfl⟩
 | .em,u,_,⟨A,k,e⟩=>by subst e;exact ⟨rfl,rfl⟩
 | .vw _ _ _ _,u,_,⟨A,m,b,d,k,_,_,_,e,_⟩=>by subst e;exact ⟨rfl,rfl⟩
 | .fn _ _ _,u,_,⟨us,vs,e,_⟩=>by subst e;exact ⟨rfl,rfl⟩
 | .tl id st,u,_,⟨⟨A,n,k,e⟩,_⟩=>by subst e;exact ⟨rfl,rfl⟩
theorem QD:∀ {aZ:List AV} {vs:List Value},aZ.all AV.one=true->ARs c aZ vs->∀v∈vs,v.oneCell'=true
 | [],vs,_,e,v,b=>by have e:vs=[]:=e;rw[e] at b;cases b
 | a::aZ,vs,h,⟨u,r,f,d,g⟩,v,b=>by
   rw[List.all_cons,Bool.and_eq_true] at h
   subst f
   rcases List.mem_cons.1 b with rfl | b
   ·exact (V5 h.1 d).1
   ·exact QD h.2 g v b
theorem JX {a:AV} {u:Value} {j:List AV} (h:a.cells=some j) (l:AR c a u):ARs c j u.cells.toList/\(∀v∈u.cells.toList,v.oneCell'=true):=by
 have key:a.one=true->j=[a]->ARs c j u.cells.toList/\(∀v∈u.cells.toList,v.oneCell'=true):=λd n=>by
  obtain ⟨m,g⟩:=V5 d l
  rw[n,g]
  exact ⟨⟨u,[],rfl,l,rfl⟩,by simpa using m⟩
 cases a with
 | v x=>
   simp only[AV.cells] at h
   split at h
   ·rename_i d;injection h with h;exact key d h.symm
   ·cases h
 | sl e xs=>injection h with h;exact key rfl h.symm
 | tl i s=>injection h with h;exact key rfl h.symm
 | ptr i o=>injection h with h;exact key rfl h.symm
 | em=>injection h with h;exact key rfl h.symm
 | vw a e i k=>injection h with h;exact key rfl h.symm
 | ep a e i k=>injection h with h;exact key rfl h.symm
 | mp i=>injection h with h;exact key rfl h.symm
 | fn f a b=>injection h with h;exact key rfl h.symm
 | ag aZ=>
   simp only[AV.cells] at h
   split at h
   ·rename_i d
    injection h with h
    subst h
    obtain ⟨vs,m,g⟩:=l
    subst m
    exact ⟨g,QD d g⟩
   ·cases h
 | tup _=>cases h
 | bad=>cases h
theorem Vr (A:Option Addr) (e:Nat):∀(xs:List (List AV)) (a i:Nat) (r:List AV),ARows c A e a xs->xs[i]? =some r->r.length=e/\ACells c A ((a+i)*e) r
 | r::rs,a,0,_,⟨d,_⟩,h=>by injection h with h;subst h;exact d
 | r::rs,a,i+1,q,⟨_,b⟩,f=>by
   have:=Vr A e rs (a+1) i q b f
   rw[show a+1+i=a+(i+1) by omega] at this
   exact this
theorem V6 (A:Option Addr):∀(aZ:List AV) (k0 k:Nat) (a:AV),ACells c A k0 aZ->aZ[k]? =some a->∃b u,A=some b/\c.rd (b.add (k0+k)) u/\AR c a u
 | a::aZ,k0,0,_,⟨e,_⟩,h=>by injection h with h;subst h;exact e
 | a::aZ,k0,k+1,q,⟨_,d⟩,f=>by
   have:=V6 A aZ (k0+1) k q d f
   rw[show k0+1+k=k0+(k+1) by omega] at this
   exact this
theorem vX {α:Type} {e:Nat}:∀ {xs:List (List α)},(∀x∈xs,x.length=e)->∀ {i k:Nat} {r:List α} {a:α},xs[i]? =some r->r[k]? =some a->xs.flatten[i*e+k]? =some a
 | x::xs,h,0,k,r,a,b,c=>by
   injection b with b
   subst b
   rw[List.flatten_cons,List.getElem?_append_left (by have:=(List.getElem?_eq_some_iff.1 c).1;omega)]
   simpa using c
 | x::xs,h,i+1,k,r,a,b,c=>by
   have d:x.length=e:=h x (by simp)
   have:=vX (xs:=xs) (λy f=>h y (by simp[f])) (i:=i) b c
   rw[List.flatten_cons,List.getElem?_append_right (by rw[d,Nat.succ_mul];omega),d]
   rw[show (i+1)*e+k - e=i*e+k by rw[Nat.succ_mul];omega]
   exact this
theorem jZ {α:Type} {e:Nat}:∀ {xs:List (List α)},(∀x∈xs,x.length=e)->xs.flatten.length=xs.length*e
 | [],_=>by simp
 | x::xs,h=>by
   rw[List.flatten_cons,List.length_append,jZ (λy a=>h y (by simp[a])),h x (by simp),List.length_cons,Nat.succ_mul]
   omega
end
structure RowsAt (w:World) (c:Ctx) (e:Nat) (xs:List (List AV)) (A:Option Addr):Prop where
 len:∀r∈xs,r.length=e
 cell:∀(i k:Nat) (r:List AV) (a:AV),xs[i]? =some r->r[k]? =some a->∃ad u,A=some ad/\w.cell? (ad.add (i*e+k))=some u/\AR c a u
section
variable {B:Nat} {w:World} {g:Gh} {h:List Ob}
theorem Zw {id st:Nat} {u:Value} (a:AR (ctx w g h) (.tl id st) u) {ty e:Nat} {xs:List (List AV)} (b:h[id]? =some (.row ty e xs st)):u=g.cur id:=
 (a.2.2 st (by simp[ctx,b,Ob.tok])).2 rfl
theorem xY {D:Nat} {e:TypeId} {size:Nat} {v:Value} {k:Nat} {xs:List Value} (h:w.ownsRow D e size v k xs):∃A a,v= .slice A k a/\k<=a:=by
 rcases h.2 with ⟨d,b⟩ | ⟨g,cap,cur,c,_,_,f,_⟩
 ·subst b;exact ⟨none,0,d,Nat.le_refl _⟩
 ·exact ⟨_,cap,c,f⟩
theorem xu (Z:HOk B w g h):∀(a:AV) {u:Value} {xs:List (List AV)},AR (ctx w g h) a u->zo h a=some xs->
  ∃A k,u= .slice A xs.length k/\xs.length<=k/\(∀e,eOf h a=some e->RowsAt w (ctx w g h) e xs A)/\(eOf h a=none->xs=[])
 | .sl e ys,u,xs,l,b=>by
   injection b with b
   subst b
   obtain ⟨A,k,C,t,z⟩:=l
   refine ⟨A,k,C,t,λV c=>?_,λc=>by cases c⟩
   injection c with c
   subst c
   refine ⟨λr b=>?_,λi k r a y E=>?_⟩
   ·obtain ⟨i,y,o⟩:=List.mem_iff_getElem.1 b
    exact (Vr A e _ 0 i r z (by rw[List.getElem?_eq_getElem y,o])).1
   ·have:=Vr A e _ 0 i r z y
    obtain ⟨Y,u,o,D,J⟩:=V6 A r _ k a this.2 E
    rw[Nat.zero_add] at D
    exact ⟨Y,u,o,D.2,J⟩
 | .tl id st,u,xs,l,b=>by
   simp only[zo] at b
   split at b
   ·rename_i ty e ys s K
    split at b
    ·rename_i hs
     injection b with b
     subst hs
     subst b
     have hc:=Zw l K
     obtain ⟨h0,C,cells,t,z⟩:=Z.ok id _ K
     obtain ⟨A,H,o,D⟩:=xY t
     refine ⟨A,H,hc.trans o,D,λV c=>?_,λc=>by simp[eOf,K] at c⟩
     simp only[eOf,K,Option.some.injEq] at c
     subst c
     refine ⟨C,λi k r a y E=>?_⟩
     have W:=vX C y E
     obtain ⟨u,P,G⟩:=kF z _ (List.getElem?_eq_some_iff.1 W).1
     rw[Z2 W] at G
     rcases t.2 with ⟨J,X⟩ | ⟨U,cap,cur,hv,_⟩
     ·have:=(List.getElem?_eq_some_iff.1 y).1
      omega
     ·have T:A=some ⟨U,0,none⟩:=by
       have p:g.cur id= .slice A ys.length H:=o
       have F:g.cur id=_:=hv
       rw[p] at F
       injection F
      refine ⟨_,u,T,?_,G⟩
      have p:g.cur id= .slice A ys.length H:=o
      exact World.ownsRow.cells t (g:=U) (by show (g.cur id).ownBlock=_;rw[p,T];rfl) _ u P
    ·cases b
   ·cases b
 | .vw a e i n,u,xs,l,b=>by
   have ih:= @xu Z a
   obtain ⟨A,m,H,A',k,C,t,z,h4,h5,_⟩:=l
   simp only[zo] at b
   cases q:zo h a with
   | none=>rw[q] at b;cases b
   | some ys=>
     rw[q] at b
     simp only[Option.bind_some] at b
     split at b
     ·rename_i M
      injection b with b
      subst b
      obtain ⟨A0,k0,o,D,J,X⟩:=ih C q
      injection o with e5 e6 e7
      subst e5 e6 e7
      have f:((ys.drop i).take n).length=n:=by simp;omega
      refine ⟨A',k,by rw[f];exact h4,by rw[f];exact z,λV c=>?_,λc=>?_⟩
      ·simp only[eOf] at c
       cases d:eOf h a with
       | none=>rw[d] at c;cases c
       | some I=>
         rw[d] at c
         simp only[Option.bind_some] at c
         split at c
         ·rename_i O
          injection c with c
          subst O c
          have S:=J _ d
          refine ⟨λr b=>S.len r (List.mem_of_mem_drop (List.mem_of_mem_take b)),λj k r a N E=>?_⟩
          have L:j<n:=by
           have:=(List.getElem?_eq_some_iff.1 N).1
           rw[f] at this;exact this
          rw[List.getElem?_take,if_pos L,List.getElem?_drop] at N
          obtain ⟨Y,u,z1,z2,z3⟩:=S.cell (i+j) k r a N E
          obtain ⟨β,z4,z5⟩:=h5 (by omega)
          rw[z1] at z4
          injection z4 with z4
          subst z4
          refine ⟨_,u,z5,?_,z3⟩
          rw[Addr.add_add,show i*I+(j*I+k)=(i+j)*I+k by rw[Nat.add_mul];omega]
          exact z2
         ·cases c
      ·simp only[eOf] at c
       cases R:(ys.drop i).take n with
       | nil=>rfl
       | cons r rs=>
         exfalso
         have b:r∈ys:=List.mem_of_mem_drop (List.mem_of_mem_take (by rw[R];simp:r∈(ys.drop i).take n))
         cases d:eOf h a with
         | none=>rw[X d] at b;cases b
         | some I=>
           rw[d] at c
           simp only[Option.bind_some] at c
           split at c
           ·cases c
           ·rename_i Q
            rcases M.2 with h0 | h0
            ·rw[h0] at R;simp at R
            ·rw[d] at h0;injection h0 with h0;exact Q h0
     ·cases b
 | .v x,u,xs,l,b=>by
   have l:u=x:=l
   subst l
   unfold zo at b
   split at b
   ·rename_i heq;cases heq
   ·rename_i heq;cases heq
   ·rename_i heq;cases heq
   ·rename_i k heq
    injection b with b
    subst b
    injection heq with heq
    exact ⟨none,k,heq,Nat.zero_le _,λe c=>by simp[eOf] at c,λ_=>rfl⟩
   ·rename_i heq;cases heq
   ·cases b
 | .em,u,xs,⟨A,k,e⟩,b=>by
   injection b with b
   subst b
   exact ⟨_,k,e,Nat.zero_le _,λe c=>by simp[eOf] at c,λ_=>rfl⟩
 | .ptr _ _,_,_,_,b | .ep _ _ _ _,_,_,_,b | .mp _,_,_,_,b | .ag _,_,_,_,b | .tup _,_,_,_,b | .fn _ _ _,_,_,_,b | .bad,_,_,_,b=>by cases b
end
structure Good (B:Nat) (w:World) (g:Gh) (h:List Ob) (w':World) (g':Gh) (h':List Ob):Prop where
 ok:HOk B w' g' h'
 le:Le (ctx w g h) (ctx w' g' h')
 below:Below B w w'
 size:B<=w'.heap.size
section
variable {B:Nat} {w w' w'':World} {g g' g'':Gh} {h h' h'':List Ob} {P:Program}
theorem Good.refl (a:HOk B w g h) (hB:B<=w.heap.size):Good B w g h w g h:=⟨a,Le.refl _,Below.refl _ _,hB⟩
theorem Good.trans (a:Good B w g h w' g' h') (b:Good B w' g' h' w'' g'' h''):Good B w g h w'' g'' h'':=
 ⟨b.ok,a.le.trans b.le,a.below.trans b.below,b.size⟩
theorem Good.drew (b:HOk B w g h) (hB:B<=w.heap.size):Good B w g h w.drew g h:=
 have a:∀D,Below D w w.drew:=λ_=>⟨rfl,rfl,rfl,Nat.le_refl _,λ_ _=>rfl⟩
 ⟨b.ext (a _),Le.ext (a _),a _,hB⟩
def PartAt (w:World) (c:Ctx) (b:Addr) (d:List AV):Prop:=∀(k:Nat) (a:AV),d[k]? =some a->∃u,w.cell? (b.add k)=some u/\AR c a u
theorem Vs:∀ {aZ:List AV} {k n:Nat} {rs:List AV},cut aZ k n=some rs->∀j,j<n->aZ[k+j]? =rs[j]? /\j<rs.length
 | _,0,0,_,_,j,c=>by omega
 | [],k+1,n,rs,h,_,_=>by cases h
 | [],0,n+1,rs,h,_,_=>by cases h
 | a::aZ,0,n+1,rs,h,j,c=>by
   unfold cut at h
   cases b:cut aZ 0 n with
   | none=>rw[b] at h;cases h
   | some q=>
     rw[b] at h
     injection h with h
     subst h
     cases j with
     | zero=>simp
     | succ j=>
       have:=Vs b j (by omega)
       simp only[Nat.zero_add,List.getElem?_cons_succ,List.length_cons] at this⊢
       exact ⟨this.1,by omega⟩
 | a::aZ,k+1,n,rs,h,j,c=>by
   unfold cut at h
   have:=Vs h j c
   rw[show k+1+j=(k+j)+1 by omega,List.getElem?_cons_succ]
   exact this
theorem JL:∀ {aZ:List AV} {k n:Nat} {rs:List AV},cut aZ k n=some rs->rs.length=n
 | aZ,0,0,_,h=>by
   have:cut aZ 0 0=some []:=by cases aZ<;>rfl
   rw[this] at h;cases h;rfl
 | [],k+1,n,rs,h=>by cases h
 | [],0,n+1,rs,h=>by cases h
 | a::aZ,0,n+1,rs,h=>by
   unfold cut at h
   cases b:cut aZ 0 n with
   | none=>rw[b] at h;cases h
   | some q=>rw[b] at h;injection h with h;subst h;simp[JL b]
 | a::aZ,k+1,n,rs,h=>by unfold cut at h;exact JL h
theorem YF {c:Ctx}:∀ {aZ:List AV} {vs:List Value},aZ.length=vs.length->(∀(k:Nat) (a:AV),aZ[k]? =some a->∃u:Value,vs[k]? =some u/\AR c a u)->ARs c aZ vs
 | [],[],_,_=>rfl
 | [],_::_,h,_=>by cases h
 | _::_,[],h,_=>by cases h
 | a::aZ,v::vs,f,h=>by
   obtain ⟨u,d,e⟩:=h 0 a rfl
   injection d with d
   subst d
   exact ⟨_,_,rfl,e,YF (by simpa using f) λk b g=>h (k+1) b g⟩
theorem PartAt.vals {c:Ctx} {g:Addr}:∀ {d:List AV},PartAt w c g d->∃vs:List Value,ARs c d vs/\∀(j:Nat) (u:Value),vs[j]? =some u->w.cell? (g.add j)=some u:=by
 intro d n
 have:∀k,∃u,k<d.length->(w.cell? (g.add k)=some u/\AR c (nth d k) u):=λk=>by
  by_cases e:k<d.length
  ·obtain ⟨u,o,m⟩:=n k _ (vW e);exact ⟨u,λ_=>⟨o,m⟩⟩
  ·exact ⟨undef,λh=>absurd h e⟩
 obtain ⟨f,l⟩:=Classical.axiomOfChoice this
 refine ⟨(List.range d.length).map f,YF (by simp) λk a e=>?_,λj u i=>?_⟩
 ·have b:=(List.getElem?_eq_some_iff.1 e).1
  refine ⟨f k,by simp[b],?_⟩
  have:=(l k b).2
  rw[Z2 e] at this
  exact this
 ·by_cases b:j<d.length
  ·simp[b] at i
   subst i
   exact (l j b).1
  ·have:j<((List.range d.length).map f).length:=(List.getElem?_eq_some_iff.1 i).1
   simp at this
   omega
theorem QE {c:Ctx} {t:TypeId} (D:(zi P t).ok=true) {p:Addr} {q:List AV} (A:PartAt w c p q) {k:Nat} {x:AV} (b:part q k (zi P t).agg (zi P t).sz=some x):
  ∃v,(loadVar t (p.add k)).run P w= .ok v w/\AR c x v:=by
 obtain ⟨d,i,F,C,e⟩:=qa D
 rw[e] at b
 simp only[part] at b
 have m:∀n rs,cut q k n=some rs->PartAt w c (p.add k) rs:=λn rs g j a z=>by
  have y:=JL g
  have E:=(List.getElem?_eq_some_iff.1 z).1
  have:=Vs g j (by omega)
  obtain ⟨u,h,l⟩:=A (k+j) a (this.1.trans z)
  exact ⟨u,by rw[Addr.add_add];exact h,l⟩
 have f:(isAgg t).run P w= .ok (z7a d) w:=by
  simp only[isAgg,Sem.run_bind,run_underlying F,Result.andThen_ok]
  cases d<;>rfl
 have r:(sizeOf t).run P w= .ok i.size w:=by simp[sizeOf,typeInfo,C]
 split at b
 ·rename_i s
  cases g:cut q k i.size with
  | none=>rw[g] at b;cases b
  | some rs=>
    rw[g] at b
    injection b with b
    subst b
    obtain ⟨vs,h,l⟩:=(m _ _ g).vals
    have o:vs.length=i.size:=by rw[<-xr h,JL g]
    have y:=run_loadCells_list (P:=P) w (p.add k) vs l
    rw[o] at y
    refine ⟨.agg vs.toArray,?_,vs.toArray,rfl,by simpa using h⟩
    simp only[loadVar,Sem.run_bind,f,Result.andThen_ok,s,if_true,r,y,Sem.run_pure]
 ·rename_i s
  split at b
  ·rename_i B
   injection b with b
   subst b
   obtain ⟨u,h,l⟩:=A k _ (vW B)
   refine ⟨u,?_,l⟩
   simp only[loadVar,Sem.run_bind,f,Result.andThen_ok,s,if_false,Bool.false_eq_true,run_load,h]
  ·cases b
theorem JY (m:HOk B w g h) {id:Nat} {ty:TypeId} {e:List AV} (j:h[id]? =some (.box ty e)):PartAt w (ctx w g h) ⟨g.β id,0,none⟩ e:=λk a c=>by
 obtain ⟨n,vs,f,l⟩:=m.ok id _ j
 obtain ⟨u,i,d⟩:=kF l k (List.getElem?_eq_some_iff.1 c).1
 rw[Z2 c] at d
 refine ⟨u,?_,d⟩
 have b:w.heap[g.β id]? =some (.cells vs ty (0,0)):=f
 rw[Addr.add_lit]
 simp only[World.cell?,b,Nat.zero_add]
 simpa using i
theorem yy (w:World) (b:Nat) (vs:Array Value):w.grownBy (w.setRow b vs) (some b):=
 ⟨rfl,rfl,rfl,by simp,λk _ a=>setRow_other w b k vs λe=>a (by rw[e])⟩
theorem xga (m:HOk B w g h) (hB:B<=w.heap.size) {id:Nat} {ty:TypeId} {q c:List AV} (j:h[id]? =some (.box ty q)) {a:Array Value} (p:ARs (ctx w g h) c a.toList):
  Good B w g h (w.setRow (g.β id) a) g (h.set id (.box ty c)):=by
 have e:=yy w (g.β id) a
 have i:=Le.turn (g':=g) (o':= .box ty c) j rfl e (λ_ _=>rfl) (λ_ _=>rfl) (λb d=> .inl d) (λ_=>⟨rfl,λs o=>by cases o⟩)
 obtain ⟨l,vs,n,r⟩:=m.ok id _ j
 refine ⟨m.turn j e (λ_ _=>rfl) (λ_ _=>rfl) (λb d=> .inl d) i ⟨l,a,setRow_heap w _ vs a ty (0,0) n,ARs.le i _ _ p⟩,i,?_,by simpa using hB⟩
 exact (Below.refl B w).grown e hB λk f=>by injection f with f;subst f;exact l
theorem Z5 (t:HOk B w g h) (hB:B<=w.heap.size) {id:Nat} {ty e:Nat} {xs xs':List (List AV)} {st:Nat} (p:h[id]? =some (.row ty e xs st)) (z:∀x∈xs',x.length=e) {v':Value} {cells:List Value} {st':Nat}
  (d:w.grownBy w' (g.cur id).ownBlock) (c:w'.ownsRow B ty e v' xs'.length cells) (A:ARs (ctx w g h) xs'.flatten cells) (q:st'=st/\v'=g.cur id∨st<st') (m:∀b,v'.ownBlock=some b->(g.cur id).ownBlock=some b∨w.heap.size<=b):
  Good B w g h w' ⟨g.β,λj=>if j=id then v' else g.cur j⟩ (h.set id (.row ty e xs' st')):=by
 have r:∀j,j≠id->(if j=id then v' else g.cur j)=g.cur j:=λj y=>if_neg y
 have a:∀b,(Ob.row ty e xs' st').blk ⟨g.β,λj=>if j=id then v' else g.cur j⟩ id=some b->(Ob.row ty e xs st).blk g id=some b∨w.heap.size<=b:=λb u=>by
  simp only[Ob.blk,if_true] at u;exact m b u
 have o:=Le.turn (g':=⟨g.β,λj=>if j=id then v' else g.cur j⟩) (o':= .row ty e xs' st') p rfl d (λ_ _=>rfl) r a (λ_=>⟨rfl,λs n=>by
  injection n with n
  subst n
  refine ⟨st,rfl,?_⟩
  rcases q with ⟨i,l⟩ | i
  ·exact .inl ⟨i,by simp[l]⟩
  ·exact .inr i⟩)
 obtain ⟨h0,i,f,l,C⟩:=t.ok id _ p
 refine ⟨t.turn p d (λ_ _=>rfl) r a o ⟨h0,z,cells,?_,ARs.le o _ _ A⟩,o,?_,Nat.le_trans hB d.size⟩
 ·simp only[ctx,if_true];exact c
 ·exact (Below.refl B w).grown d hB λk v=>(World.ownsRow.lt l k v).1
theorem xha (l:HOk B w g h) (hB:B<=w.heap.size) {ty:TypeId} {a:List AV} {vs:Array Value} (k:ARs (ctx w g h) a vs.toList):
  Good B w g h (w.alloc (.cells vs ty)) ⟨λj=>if j=h.length then w.heap.size else g.β j,g.cur⟩ (h++[.box ty a])/\AR (ctx (w.alloc (.cells vs ty)) ⟨λj=>if j=h.length then w.heap.size else g.β j,g.cur⟩ (h++[.box ty a])) (.ptr h.length 0) (.pointer (some ⟨w.heap.size,0,none⟩)):=by
 have c:∀D,D<=w.heap.size->Below D w (w.alloc (.cells vs ty)):=λD i=>(Below.refl D w).alloc i _
 have e:∀j,j<h.length->(if j=h.length then w.heap.size else g.β j)=g.β j:=λj m=>if_neg (by omega)
 have f:∀b,(Ob.box ty a).blk ⟨λj=>if j=h.length then w.heap.size else g.β j,g.cur⟩ h.length=some b->w.heap.size<=b:=λb c=>by
  simp[Ob.blk] at c;omega
 have d:=Le.more (g:=g) (g':=⟨λj=>if j=h.length then w.heap.size else g.β j,g.cur⟩) (o:= .box ty a) (c _ (Nat.le_refl _)) e (λ_ _=>rfl) f
 refine ⟨⟨l.more (c _ (Nat.le_refl _)) e (λ_ _=>rfl) f d ⟨by simp[ctx];exact hB,vs,?_,ARs.le d _ _ k⟩,d,c _ hB,by simp;omega⟩,⟨.box ty a,by simp,rfl⟩,by simp[ctx]⟩
 simp only[ctx,if_true]
 exact heap_alloc_new w _
theorem yz (t:HOk B w g h) (hB:B<=w.heap.size) {ty e:Nat} (m:0<e) {xs:List (List AV)} (n:∀x∈xs,x.length=e) {v':Value} {cells:List Value} (st:Nat)
  (c:Below w.heap.size w w') (a:w'.ownsRow B ty e v' xs.length cells) (r:ARs (ctx w g h) xs.flatten cells) (d:∀b,v'.ownBlock=some b->w.heap.size<=b):
  Good B w g h w' ⟨g.β,λj=>if j=h.length then v' else g.cur j⟩ (h++[.row ty e xs st])/\AR (ctx w' ⟨g.β,λj=>if j=h.length then v' else g.cur j⟩ (h++[.row ty e xs st])) (.tl h.length st) v':=by
 have i:∀j,j<h.length->(if j=h.length then v' else g.cur j)=g.cur j:=λj u=>if_neg (by omega)
 have l:∀b,(Ob.row ty e xs st).blk ⟨g.β,λj=>if j=h.length then v' else g.cur j⟩ h.length=some b->w.heap.size<=b:=λb c=>by
  simp only[Ob.blk,if_true] at c;exact d b c
 have f:=Le.more (g:=g) (g':=⟨g.β,λj=>if j=h.length then v' else g.cur j⟩) (o:= .row ty e xs st) c (λ_ _=>rfl) i l
 obtain ⟨A,p,q,_⟩:=xY a
 refine ⟨⟨t.more c (λ_ _=>rfl) i l f ⟨m,n,cells,?_,ARs.le f _ _ r⟩,f,c.mono hB,Nat.le_trans hB c.size⟩,⟨A,_,p,q⟩,⟨.row ty e xs st,by simp,rfl⟩,λs k=>?_⟩
 ·simp only[ctx,if_true];exact a
 ·simp[ctx,Ob.tok] at k
  subst k
  exact ⟨Nat.le_refl _,λ_=>by simp[ctx]⟩
theorem Vt (r:HOk B w g h) (hB:B<=w.heap.size) {i:Nat} (l:h[i]? =some .res) {o:Ob} (n:o.isRes=false) (a:Below w.heap.size w w') (m:∀j,j≠i->g'.β j=g.β j) (e:∀j,j≠i->g'.cur j=g.cur j)
  (c:∀b,o.blk g' i=some b->w.heap.size<=b) (q:Le (ctx w g h) (ctx w' g' (h.set i o))->o.ok B w' (ctx w' g' (h.set i o)) i):Good B w g h w' g' (h.set i o):=by
 have f:w.grownBy w' ((Ob.res).blk g i):=⟨a.os,a.tape,a.output,a.size,λk p _=>a.block k p⟩
 have d:=Le.turn (g':=g') (o':=o) l n f m e (λb a=> .inr (c b a)) (λh=>by cases h)
 exact ⟨r.turn l f m e (λb a=> .inr (c b a)) d (q d),d,a.mono hB,Nat.le_trans hB a.size⟩
theorem yxa (l:HOk B w g h) (hB:B<=w.heap.size) {i:Nat} (c:h[i]? =some .res) {ty:TypeId} {a:List AV} {vs:Array Value} (k:ARs (ctx w g h) a vs.toList):
  Good B w g h (w.alloc (.cells vs ty)) ⟨λj=>if j=i then w.heap.size else g.β j,g.cur⟩ (h.set i (.box ty a))/\AR (ctx (w.alloc (.cells vs ty)) ⟨λj=>if j=i then w.heap.size else g.β j,g.cur⟩ (h.set i (.box ty a))) (.ptr i 0) (.pointer (some ⟨w.heap.size,0,none⟩)):=by
 refine ⟨Vt l hB c rfl ((Below.refl _ w).alloc (Nat.le_refl _) _) (λj e=>if_neg e) (λ_ _=>rfl) (λb d=>?_) (λf=>⟨?_,vs,?_,ARs.le f _ _ k⟩),⟨.box ty a,List.getElem?_set_self (jY c),rfl⟩,by simp[ctx]⟩
 ·simp[Ob.blk] at d;omega
 ·simp[ctx];exact hB
 ·simp only[ctx,if_true];exact heap_alloc_new w _
theorem yya (t:HOk B w g h) (hB:B<=w.heap.size) {i:Nat} (f:h[i]? =some .res) {ty e:Nat} (l:0<e) {xs:List (List AV)} (m:∀x∈xs,x.length=e) {v':Value} {cells:List Value} (st:Nat)
  (c:Below w.heap.size w w') (a:w'.ownsRow B ty e v' xs.length cells) (r:ARs (ctx w g h) xs.flatten cells) (d:∀b,v'.ownBlock=some b->w.heap.size<=b):
  Good B w g h w' ⟨g.β,λj=>if j=i then v' else g.cur j⟩ (h.set i (.row ty e xs st))/\AR (ctx w' ⟨g.β,λj=>if j=i then v' else g.cur j⟩ (h.set i (.row ty e xs st))) (.tl i st) v':=by
 obtain ⟨A,n,q,_⟩:=xY a
 refine ⟨Vt t hB f rfl c (λ_ _=>rfl) (λj o=>if_neg o) (λb c=>?_) (λp=>⟨l,m,cells,?_,ARs.le p _ _ r⟩),⟨A,_,n,q⟩,⟨.row ty e xs st,List.getElem?_set_self (jY f),rfl⟩,λs k=>?_⟩
 ·simp only[Ob.blk,if_true] at c;exact d b c
 ·simp only[ctx,if_true];exact a
 ·simp[ctx,Ob.tok,List.getElem?_set_self (jY f)] at k
  subst k
  exact ⟨Nat.le_refl _,λ_=>by simp[ctx]⟩
theorem xia (i:HOk B w g h) (hB:B<=w.heap.size):
  Good B w g h (w.alloc (.map #[] 0)) ⟨λj=>if j=h.length then w.heap.size else g.β j,g.cur⟩ (h++[.mapo []])/\AR (ctx (w.alloc (.map #[] 0)) ⟨λj=>if j=h.length then w.heap.size else g.β j,g.cur⟩ (h++[.mapo []])) (.mp h.length) (.map (some w.heap.size)):=by
 have a:∀D,D<=w.heap.size->Below D w (w.alloc (.map #[] 0)):=λD f=>(Below.refl D w).alloc f _
 have c:∀j,j<h.length->(if j=h.length then w.heap.size else g.β j)=g.β j:=λj k=>if_neg (by omega)
 have d:∀b,(Ob.mapo []).blk ⟨λj=>if j=h.length then w.heap.size else g.β j,g.cur⟩ h.length=some b->w.heap.size<=b:=λb a=>by
  simp[Ob.blk] at a;omega
 have e:=Le.more (g:=g) (g':=⟨λj=>if j=h.length then w.heap.size else g.β j,g.cur⟩) (o:= .mapo []) (a _ (Nat.le_refl _)) c (λ_ _=>rfl) d
 refine ⟨⟨i.more (a _ (Nat.le_refl _)) c (λ_ _=>rfl) d e ⟨by simp[ctx];exact hB, #[],0,[],?_,List.Perm.refl _,rfl,List.nodup_nil⟩,e,a _ hB,by simp;omega⟩,⟨.mapo [],by simp,rfl⟩,by simp[ctx]⟩
 simp only[ctx,if_true]
 exact heap_alloc_new w _
theorem yza (e:HOk B w g h) (hB:B<=w.heap.size) {i:Nat} (a:h[i]? =some .res):
  Good B w g h (w.alloc (.map #[] 0)) ⟨λj=>if j=i then w.heap.size else g.β j,g.cur⟩ (h.set i (.mapo []))/\AR (ctx (w.alloc (.map #[] 0)) ⟨λj=>if j=i then w.heap.size else g.β j,g.cur⟩ (h.set i (.mapo []))) (.mp i) (.map (some w.heap.size)):=by
 refine ⟨Vt e hB a rfl ((Below.refl _ w).alloc (Nat.le_refl _) _) (λj d=>if_neg d) (λ_ _=>rfl) (λb c=>?_) (λf=>⟨?_, #[],0,[],?_,List.Perm.refl _,rfl,List.nodup_nil⟩),⟨.mapo [],List.getElem?_set_self (jY a),rfl⟩,by simp[ctx]⟩
 ·simp[Ob.blk] at c;omega
 ·simp[ctx];exact hB
 ·simp only[ctx,if_true];exact heap_alloc_new w _
theorem yA (w:World) (b:Nat) (o:Obj):w.grownBy { w with heap:=w.heap.setIfInBounds b o } (some b):=
 ⟨rfl,rfl,rfl,by simp,λk _ a=>Array.getElem?_setIfInBounds_ne (λe=>a (by rw[e]))⟩
theorem V7 (m:HOk B w g h) (hB:B<=w.heap.size) {id:Nat} {l l2 l':List (AV × AV)} (f:h[id]? =some (.mapo l)) {es':Array MapEntry} {k':Nat} (p:l2.Perm l') (q:MapRel (ctx w g h) l2 es'.toList) (r:(es'.toList.map (·.key)).Nodup):
  Good B w g h { w with heap:=w.heap.setIfInBounds (g.β id) (.map es' k') } g (h.set id (.mapo l')):=by
 have c:=yA w (g.β id) (.map es' k')
 have e:=Le.turn (g':=g) (o':= .mapo l') f rfl c (λ_ _=>rfl) (λ_ _=>rfl) (λb a=> .inl a) (λ_=>⟨rfl,λs o=>by cases o⟩)
 obtain ⟨j,es,k,v,n,u,t,_⟩:=m.ok id _ f
 have i:g.β id<w.heap.size:=(Array.getElem?_eq_some_iff.1 n).1
 refine ⟨m.turn f c (λ_ _=>rfl) (λ_ _=>rfl) (λb a=> .inl a) e ⟨j,es',k',l2,?_,p,MapRel.le e _ _ q,r⟩,e,?_,by simpa using hB⟩
 ·show ({ w with heap:=w.heap.setIfInBounds (g.β id) (.map es' k') }:World).heap[g.β id]? =_
  simp[i]
 ·exact (Below.refl B w).grown c hB λk d=>by injection d with d;subst d;exact j
theorem V8 (i:HOk B w g h) (hB:B<=w.heap.size) (o:Obj) {ks:List AV} {us:List Value} (c:ARs (ctx w g h) ks us):Good B w g h (w.alloc o) g (h++[.raw w.heap.size o ks us]):=by
 have a:∀D,D<=w.heap.size->Below D w (w.alloc o):=λD f=>(Below.refl D w).alloc f _
 have e:∀b,(Ob.raw w.heap.size o ks us).blk g h.length=some b->w.heap.size<=b:=λb a=>by
  simp[Ob.blk] at a;omega
 have d:=Le.more (g:=g) (g':=g) (o:= .raw w.heap.size o ks us) (a _ (Nat.le_refl _)) (λ_ _=>rfl) (λ_ _=>rfl) e
 exact ⟨i.more (a _ (Nat.le_refl _)) (λ_ _=>rfl) (λ_ _=>rfl) e d ⟨hB,heap_alloc_new w _,ARs.le d _ _ c⟩,d,a _ hB,by simp;omega⟩
theorem Z6 (m:HOk B w g h) (hB:B<=w.heap.size) {id l:Nat} {o:Obj} {ks:List AV} {us:List Value} (i:h[id]? =some (.raw l o ks us)) (o':Obj):
  Good B w g h { w with heap:=w.heap.setIfInBounds l o' } g (h.set id (.raw l o' ks us)):=by
 have c:=yA w l o'
 have f:=Le.turn (g':=g) (o':= .raw l o' ks us) i rfl c (λ_ _=>rfl) (λ_ _=>rfl) (λb a=> .inl a) (λ_=>⟨rfl,λs p=>by cases p⟩)
 obtain ⟨j,n,q⟩:=m.ok id _ i
 have e:l<w.heap.size:=(Array.getElem?_eq_some_iff.1 n).1
 refine ⟨m.turn i c (λ_ _=>rfl) (λ_ _=>rfl) (λb a=> .inl a) f ⟨j,?_,ARs.le f _ _ q⟩,f,?_,by simpa using hB⟩
 ·show ({ w with heap:=w.heap.setIfInBounds l o' }:World).heap[l]? =_
  simp[e]
 ·exact (Below.refl B w).grown c hB λk d=>by injection d with d;subst d;exact j
end
end Go.Proofs.YtfmldcilgbbimaaGreat.Ax
