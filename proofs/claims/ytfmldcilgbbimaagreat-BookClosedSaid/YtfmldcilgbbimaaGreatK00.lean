/-
  Joined.
-/
import Derived.Below
import Derived.Laws.AppendOwn
import Derived.Laws.Tables
import Derived.Laws.Cells
import Derived.Laws.Slices
import Derived.Laws.StructEq
import Derived.DataElems
set_option linter.unusedSimpArgs false
set_option linter.unusedVariables false
namespace Go.Proofs.YtfmldcilgbbimaaGreat.Ax
open Go
inductive AV where
 | v (x:Value)
 | sl (e:Nat) (xs:List (List AV))
 | tl (id st:Nat)
 | em
 | vw (a:AV) (e i n:Nat)
 | ptr (id off:Nat)
 | ep (a:AV) (e i k:Nat)
 | mp (id:Nat)
 | ag (cs:List AV)
 | tup (cs:List AV)
 | fn (f:Fn) (first cs:List AV)
 | bad
structure Ctx where
 rd:Addr->Value->Prop
 n:Nat
 live:Nat->Prop
 β:Nat->Nat
 cur:Nat->Value
 tok:Nat->Option Nat
def Tok (c:Ctx) (id st:Nat) (u:Value):Prop:=c.live id/\∀s,c.tok id=some s->st<=s/\(st=s->u=c.cur id)
mutual
def AR (c:Ctx):AV->Value->Prop
 | .v x,u=>u=x
 | .sl e xs,u=>∃A k,u= .slice A xs.length k/\xs.length<=k/\ARows c A e 0 xs
 | .tl id st,u=>(∃A n k,u= .slice A n k)/\Tok c id st u
 | .em,u=>∃A k,u= .slice (some A) 0 k
 | .vw a e i n,u=>∃A m b d k,AR c a (.slice A m b)/\i+n<=m/\n<=k/\u= .slice d n k/\(0<n->∃g,A=some g/\d=some (g.add (i*e)))/\(i=0->(d=A∨d=A.map (·.add 0))/\k=b)
 | .ptr id off,u=>c.live id/\u= .pointer (some ⟨c.β id,off,none⟩)
 | .ep a e i k,u=>∃A m b,AR c a (.slice (some A) m b)/\i<m/\u= .pointer (some (A.add (i*e+k)))
 | .mp id,u=>c.live id/\u= .map (some (c.β id))
 | .ag cs,u=>∃vs,u= .agg vs/\ARs c cs vs.toList
 | .tup cs,u=>∃vs,u= .tuple vs/\ARs c cs vs.toList
 | .fn f h cs,u=>∃us vs,u= .func f us vs/\ARs c h us.toList/\ARs c cs vs.toList
 | .bad,_=>True
def ARs (c:Ctx):List AV->List Value->Prop
 | [],vs=>vs=[]
 | a::aZ,vs=>∃v r,vs=v::r/\AR c a v/\ARs c aZ r
def ARows (c:Ctx) (A:Option Addr) (e:Nat):Nat->List (List AV)->Prop
 | _,[]=>True
 | i,r::rs=>(r.length=e/\ACells c A (i*e) r)/\ARows c A e (i+1) rs
def ACells (c:Ctx) (A:Option Addr):Nat->List AV->Prop
 | _,[]=>True
 | k,a::aZ=>(∃b u,A=some b/\c.rd (b.add k) u/\AR c a u)/\ACells c A (k+1) aZ
end
structure Le (c c':Ctx):Prop where
 rd:∀a u,c.rd a u->c'.rd a u
 n:c.n<=c'.n
 live:∀i,c.live i->c'.live i
 β:∀i,c.live i->c'.β i=c.β i
 tok:∀i,c.live i->∀s,c'.tok i=some s->∃s0,c.tok i=some s0/\((s=s0/\c'.cur i=c.cur i)∨s0<s)
theorem Le.refl (c:Ctx):Le c c:=⟨λ_ _ h=>h,Nat.le_refl _,λ_ h=>h,λ_ _=>rfl,λ_ _ s h=>⟨s,h,.inl ⟨rfl,rfl⟩⟩⟩
theorem Le.trans {a b c:Ctx} (h:Le a b) (k:Le b c):Le a c:=
 ⟨λx u l=>k.rd x u (h.rd x u l),Nat.le_trans h.n k.n,λi d=>k.live i (h.live i d),λi d=>(k.β i (h.live i d)).trans (h.β i d),λi d s p=>by
  obtain ⟨o,m,j⟩:=k.tok i (h.live i d) s p
  obtain ⟨s0,q,g⟩:=h.tok i d o m
  refine ⟨s0,q,?_⟩
  rcases j with ⟨rfl,f⟩ | f
  ·rcases g with ⟨rfl,e⟩ | e
   ·exact .inl ⟨rfl,f.trans e⟩
   ·exact .inr e
  ·rcases g with ⟨rfl,_⟩ | e
   ·exact .inr f
   ·exact .inr (by omega)⟩
theorem Tok.le {c c':Ctx} (h:Le c c') {id st:Nat} {u:Value} (a:Tok c id st u):Tok c' id st u:=
 ⟨h.live id a.1,λs i=>by
  obtain ⟨s0,g,d⟩:=h.tok id a.1 s i
  obtain ⟨j,f⟩:=a.2 s0 g
  rcases d with ⟨rfl,b⟩ | b
  ·exact ⟨j,λe=>by rw[b];exact f e⟩
  ·exact ⟨by omega,λe=>by omega⟩⟩
mutual
theorem AR.le {c c':Ctx} (h:Le c c'):∀(a:AV) (u:Value),AR c a u->AR c' a u
 | .v _,_,e=>e
 | .sl e xs,u,⟨A,k,b,d,g⟩=>⟨A,k,b,d,ARows.le h A e 0 xs g⟩
 | .tl id st,u,b=>⟨b.1,Tok.le h b.2⟩
 | .em,_,b=>b
 | .vw a e i n,u,⟨A,m,j,o,k,b,d⟩=>⟨A,m,j,o,k,AR.le h a _ b,d⟩
 | .ptr id off,u,⟨b,d⟩=>⟨h.live id b,by rw[h.β id b];exact d⟩
 | .ep a e i k,u,⟨A,m,j,b,d,g⟩=>⟨A,m,j,AR.le h a _ b,d,g⟩
 | .mp id,u,⟨b,d⟩=>⟨h.live id b,by rw[h.β id b];exact d⟩
 | .ag cs,u,⟨vs,b,d⟩=>⟨vs,b,ARs.le h cs _ d⟩
 | .tup cs,u,⟨vs,b,d⟩=>⟨vs,b,ARs.le h cs _ d⟩
 | .fn f l cs,u,⟨us,vs,b,d,g⟩=>⟨us,vs,b,ARs.le h l _ d,ARs.le h cs _ g⟩
 | .bad,_,_=>True.intro
theorem ARs.le {c c':Ctx} (h:Le c c'):∀(aZ:List AV) (vs:List Value),ARs c aZ vs->ARs c' aZ vs
 | [],_,e=>e
 | a::aZ,vs,⟨v,r,b,d,f⟩=>⟨v,r,b,AR.le h a v d,ARs.le h aZ r f⟩
theorem ARows.le {c c':Ctx} (h:Le c c') (A:Option Addr) (e:Nat):∀(i:Nat) (rs:List (List AV)),ARows c A e i rs->ARows c' A e i rs
 | _,[],_=>True.intro
 | i,r::rs,⟨⟨a,b⟩,d⟩=>⟨⟨a,ACells.le h A (i*e) r b⟩,ARows.le h A e (i+1) rs d⟩
theorem ACells.le {c c':Ctx} (h:Le c c') (A:Option Addr):∀(k:Nat) (aZ:List AV),ACells c A k aZ->ACells c' A k aZ
 | _,[],_=>True.intro
 | k,a::aZ,⟨⟨f,u,e,b,g⟩,d⟩=>⟨⟨f,u,e,h.rd _ _ b,AR.le h a u g⟩,ACells.le h A (k+1) aZ d⟩
end
mutual
def AV.lt (n:Nat):AV->Bool
 | .v _=>true
 | .sl _ xs=>zU n xs
 | .tl id _=>decide (id<n)
 | .em=>true
 | .vw a _ _ _=>a.lt n
 | .ptr id _=>decide (id<n)
 | .ep a _ _ _=>a.lt n
 | .mp id=>decide (id<n)
 | .ag cs=>zG n cs
 | .tup cs=>zG n cs
 | .fn _ b cs=>zG n b && zG n cs
 | .bad=>true
def zG (n:Nat):List AV->Bool
 | []=>true
 | a::aZ=>a.lt n && zG n aZ
def zU (n:Nat):List (List AV)->Bool
 | []=>true
 | r::rs=>zG n r && zU n rs
end
structure Less (n:Nat) (c c':Ctx):Prop where
 rd:∀a u,c.rd a u->c'.rd a u
 sz:c'.n=n
 live:∀i,i<n->c.live i->c'.live i
 β:∀i,i<n->c'.β i=c.β i
 tok:∀i,i<n->c'.tok i=c.tok i
 cur:∀i,i<n->c'.cur i=c.cur i
mutual
theorem AR.less {n:Nat} {c c':Ctx} (h:Less n c c'):∀(a:AV) (u:Value),a.lt n=true->AR c a u->AR c' a u
 | .v _,_,_,e=>e
 | .sl e xs,u,l,⟨A,k,b,d,g⟩=>⟨A,k,b,d,ARows.less h A e 0 xs (by simpa [AV.lt] using l) g⟩
 | .tl id st,u,l,b=>by
   have l:id<n:=by simpa [AV.lt] using l
   exact ⟨b.1,h.live id l b.2.1,λs p=>by rw[h.tok id l] at p;rw[h.cur id l];exact b.2.2 s p⟩
 | .em,_,_,b=>b
 | .vw a e i n,u,l,⟨A,m,j,q,k,b,d⟩=>⟨A,m,j,q,k,AR.less h a _ (by simpa [AV.lt] using l) b,d⟩
 | .ptr id off,u,l,⟨b,d⟩=>by
   have l:id<n:=by simpa [AV.lt] using l
   exact ⟨h.live id l b,by rw[h.β id l];exact d⟩
 | .ep a e i k,u,l,⟨A,m,j,b,d,g⟩=>⟨A,m,j,AR.less h a _ (by simpa [AV.lt] using l) b,d,g⟩
 | .mp id,u,l,⟨b,d⟩=>by
   have l:id<n:=by simpa [AV.lt] using l
   exact ⟨h.live id l b,by rw[h.β id l];exact d⟩
 | .ag cs,u,l,⟨vs,b,d⟩=>⟨vs,b,ARs.less h cs _ (by simpa [AV.lt] using l) d⟩
 | .tup cs,u,l,⟨vs,b,d⟩=>⟨vs,b,ARs.less h cs _ (by simpa [AV.lt] using l) d⟩
 | .fn f o cs,u,l,⟨us,vs,b,d,g⟩=>by
   have l:zG n o=true/\zG n cs=true:=by simpa [AV.lt] using l
   exact ⟨us,vs,b,ARs.less h o _ l.1 d,ARs.less h cs _ l.2 g⟩
 | .bad,_,_,_=>True.intro
theorem ARs.less {n:Nat} {c c':Ctx} (h:Less n c c'):∀(aZ:List AV) (vs:List Value),zG n aZ=true->ARs c aZ vs->ARs c' aZ vs
 | [],_,_,e=>e
 | a::aZ,vs,l,⟨v,r,b,d,f⟩=>by
   have l:a.lt n=true/\zG n aZ=true:=by simpa [zG] using l
   exact ⟨v,r,b,AR.less h a v l.1 d,ARs.less h aZ r l.2 f⟩
theorem ARows.less {n:Nat} {c c':Ctx} (h:Less n c c') (A:Option Addr) (e:Nat):∀(i:Nat) (rs:List (List AV)),zU n rs=true->ARows c A e i rs->ARows c' A e i rs
 | _,[],_,_=>True.intro
 | i,r::rs,l,⟨⟨a,b⟩,d⟩=>by
   have l:zG n r=true/\zU n rs=true:=by simpa [zU] using l
   exact ⟨⟨a,ACells.less h A (i*e) r l.1 b⟩,ARows.less h A e (i+1) rs l.2 d⟩
theorem ACells.less {n:Nat} {c c':Ctx} (h:Less n c c') (A:Option Addr):∀(k:Nat) (aZ:List AV),zG n aZ=true->ACells c A k aZ->ACells c' A k aZ
 | _,[],_,_=>True.intro
 | k,a::aZ,l,⟨⟨f,u,e,b,g⟩,d⟩=>by
   have l:a.lt n=true/\zG n aZ=true:=by simpa [zG] using l
   exact ⟨⟨f,u,e,h.rd _ _ b,AR.less h a u l.1 g⟩,ACells.less h A (k+1) aZ l.2 d⟩
end
end Go.Proofs.YtfmldcilgbbimaaGreat.Ax
namespace Go.Proofs.YtfmldcilgbbimaaGreat.Ax
open Go Go.RowKit
inductive Ob where
 | box (ty:TypeId) (cs:List AV)
 | row (ty e:Nat) (xs:List (List AV)) (st:Nat)
 | mapo (es:List (AV × AV))
 | raw (l:Nat) (o:Obj) (ks:List AV) (us:List Value)
 | gone
 | res
def Ob.isRes:Ob->Bool
 | .res=>true
 | _=>false
structure Gh where
 β:Nat->Nat
 cur:Nat->Value
def Ob.blk (g:Gh) (i:Nat):Ob->Option Nat
 | .box _ _=>some (g.β i)
 | .row _ _ _ _=>(g.cur i).ownBlock
 | .mapo _=>some (g.β i)
 | .raw l _ _ _=>some l
 | .gone | .res=>none
def kept (g:Gh) (h:List Ob) (b:Nat):Prop:=∃(i:Nat) (o:Ob),h[i]? =some o/\o.blk g i=some b
def Ob.tok:Option Ob->Option Nat
 | some (.row _ _ _ st)=>some st
 | _=>none
def ctx (w:World) (g:Gh) (h:List Ob):Ctx:=
 { rd:=λa u=>¬ kept g h a.block/\w.cell? a=some u
   n:=h.length
   live:=λi=>∃o,h[i]? =some o/\o.isRes=false
   β:=g.β
   cur:=g.cur
   tok:=λi=>Ob.tok h[i]? }
def MapRel (c:Ctx):List (AV × AV)->List MapEntry->Prop
 | [],es=>es=[]
 | (k,v)::r,es=>∃e q,es=e::q/\AR c k e.key/\AR c v e.val/\MapRel c r q
theorem MapRel.le {c c':Ctx} (h:Le c c'):∀(l:List (AV × AV)) (es:List MapEntry),MapRel c l es->MapRel c' l es
 | [],_,e=>e
 | (_,_)::r,_,⟨e,q,a,b,f,d⟩=>⟨e,q,a,AR.le h _ _ b,AR.le h _ _ f,MapRel.le h r q d⟩
def Ob.ok (B:Nat) (w:World) (c:Ctx) (i:Nat):Ob->Prop
 | .box ty cs=>B<=c.β i/\∃vs,w.heap[c.β i]? =some (.cells vs ty (0,0))/\ARs c cs vs.toList
 | .row ty e xs _=>0<e/\(∀x∈xs,x.length=e)/\∃cells,w.ownsRow B ty e (c.cur i) xs.length cells/\ARs c xs.flatten cells
 | .mapo l=>B<=c.β i/\∃es k l',w.heap[c.β i]? =some (.map es k)/\l'.Perm l/\MapRel c l' es.toList/\(es.toList.map (·.key)).Nodup
 | .raw l o ks us=>B<=l/\w.heap[l]? =some o/\ARs c ks us
 | .gone | .res=>True
structure HOk (B:Nat) (w:World) (g:Gh) (h:List Ob):Prop where
 ok:∀(i:Nat) (o:Ob),h[i]? =some o->o.ok B w (ctx w g h) i
 apart:∀(i j:Nat) (o p:Ob) (b:Nat),i≠j->h[i]? =some o->h[j]? =some p->o.blk g i=some b->p.blk g j≠some b
section
variable {B:Nat} {w w':World} {g g':Gh} {h h':List Ob} {i:Nat} {o o':Ob}
theorem Vxa {c:Ctx} (h:o.ok B w c i) (j:c.β=g.β) (m:c.cur=g.cur) {b:Nat} (a:o.blk g i=some b):B<=b/\b<w.heap.size:=by
 cases o with
 | box ty cs=>
   obtain ⟨f,vs,d,_⟩:=h
   rw[j] at f d
   injection a with a
   subst a
   exact ⟨f,(Array.getElem?_eq_some_iff.1 d).1⟩
 | row ty e xs st=>
   obtain ⟨_,_,cells,d,_⟩:=h
   rw[m] at d
   exact World.ownsRow.lt d b a
 | mapo l=>
   obtain ⟨f,vs,k,l',d,_⟩:=h
   rw[j] at f d
   injection a with a
   subst a
   exact ⟨f,(Array.getElem?_eq_some_iff.1 d).1⟩
 | raw l o ks us=>
   obtain ⟨f,d,_⟩:=h
   injection a with a
   subst a
   exact ⟨f,(Array.getElem?_eq_some_iff.1 d).1⟩
 | gone=>cases a
 | res=>cases a
theorem HOk.lt (k:HOk B w g h) (c:h[i]? =some o) {b:Nat} (a:o.blk g i=some b):B<=b/\b<w.heap.size:=Vxa (k.ok i o c) rfl rfl a
theorem zaa {D:Nat} {e:TypeId} {size:Nat} {v:Value} {k:Nat} {xs:List Value} (h:w.ownsRow D e size v k xs) (i:∀b,v.ownBlock=some b->w'.heap[b]? =w.heap[b]?):w'.ownsRow D e size v k xs:=by
 refine ⟨h.1,?_⟩
 rcases h.2 with a | ⟨g,cap,cur,d,c,f,r⟩
 ·exact .inl a
 ·subst d
  exact .inr ⟨g,cap,cur,rfl,c,(i g rfl).trans f,r⟩
theorem Ob.ok_le {c c':Ctx} (a:o.isRes=false->c.live i) (f:o.ok B w c i) (d:Le c c') (t:c'.cur i=c.cur i) (q:c.β=g.β) (p:c.cur=g.cur) (n:∀b,o.blk g i=some b->w'.heap[b]? =w.heap[b]?):o.ok B w' c' i:=by
 cases o with
 | box ty cs=>
   obtain ⟨j,vs,h,m⟩:=f
   have a:=a rfl
   refine ⟨by rw[d.β i a];exact j,vs,?_,ARs.le d _ _ m⟩
   rw[d.β i a]
   exact (n _ (by rw[q];rfl)).trans h
 | row ty e xs st=>
   obtain ⟨j,s,cells,h,m⟩:=f
   refine ⟨j,s,cells,?_,ARs.le d _ _ m⟩
   rw[t]
   exact zaa h λb r=>n b (by rw[p] at r;exact r)
 | mapo l=>
   obtain ⟨j,vs,k,l',h,u,m,v⟩:=f
   have a:=a rfl
   refine ⟨by rw[d.β i a];exact j,vs,k,l',?_,u,MapRel.le d _ _ m,v⟩
   rw[d.β i a]
   exact (n _ (by rw[q];rfl)).trans h
 | raw l o ks us=>exact ⟨f.1,(n _ rfl).trans f.2.1,ARs.le d _ _ f.2.2⟩
 | gone=>trivial
 | res=>trivial
theorem Le.ext (c:Below w.heap.size w w'):Le (ctx w g h) (ctx w' g h):=
 ⟨λa _ b=>⟨b.1,(World.cell?_of_block (w:=w) (c.block a.block (World.block_lt_of_cell? w a b.2))).trans b.2⟩,Nat.le_refl _,λ_ h=>h,λ_ _=>rfl,λ_ _ s d=>⟨s,d,.inl ⟨rfl,rfl⟩⟩⟩
theorem xO (a:h[i]? =some o):i<h.length:=(List.getElem?_eq_some_iff.1 a).1
theorem zba (b:h[i]? =some o) (a:o.isRes=false):(ctx w g h).live i:=⟨o,b,a⟩
theorem HOk.ext (k:HOk B w g h) (c:Below w.heap.size w w'):HOk B w' g h:=
 ⟨λi o a=>Ob.ok_le (g:=g) (zba a) (k.ok i o a) (Le.ext c) rfl rfl rfl λb d=>c.block b (k.lt a d).2,k.apart⟩
theorem JP {j:Nat} {p:Ob} (a:g'.β j=g.β j) (b:g'.cur j=g.cur j):p.blk g' j=p.blk g j:=by
 cases p with
 | box ty cs=>exact congrArg some a
 | row ty e n st=>exact congrArg Value.ownBlock b
 | mapo _=>exact congrArg some a
 | raw _ _ _ _=>rfl
 | gone=>rfl
 | res=>rfl
theorem Le.turn (q:h[i]? =some o) (y:o'.isRes=false) (G:w.grownBy w' (o.blk g i)) (B:∀j,j≠i->g'.β j=g.β j) (C:∀j,j≠i->g'.cur j=g.cur j)
  (E:∀b,o'.blk g' i=some b->o.blk g i=some b∨w.heap.size<=b)
  (r:o.isRes=false->g'.β i=g.β i/\∀s,Ob.tok (some o')=some s->∃s0,Ob.tok (some o)=some s0/\((s=s0/\g'.cur i=g.cur i)∨s0<s)):Le (ctx w g h) (ctx w' g' (h.set i o')):=by
 have m:=xO q
 have d:∀j,j=i->(ctx w g h).live j->o.isRes=false:=λj e ⟨p,f,n⟩=>by
  subst e;rw[q] at f;injection f with f;subst f;exact n
 refine ⟨λa u F=>?_,by simp[ctx],λj ⟨p,k,x⟩=>?_,λj v=>?_,λj v s A=>?_⟩
 ·obtain ⟨f,n⟩:=F
  have t:=World.block_lt_of_cell? w a n
  refine ⟨λ⟨j,p,k,l⟩=>?_,?_⟩
  ·by_cases c:j=i
   ·subst c
    rw[List.getElem?_set_self m] at k
    injection k with k
    subst k
    rcases E _ l with D | D
    ·exact f ⟨j,o,q,D⟩
    ·omega
   ·rw[List.getElem?_set_ne (λe=>c e.symm)] at k
    exact f ⟨j,p,k,by rw[JP (B j c) (C j c)] at l;exact l⟩
  ·exact (World.cell?_of_block (w:=w) (G.block a.block t (λe=>f ⟨i,o,q,e.symm⟩))).trans n
 ·by_cases c:j=i
  ·subst c;exact ⟨o',List.getElem?_set_self m,y⟩
  ·exact ⟨p,by rw[List.getElem?_set_ne (λe=>c e.symm)];exact k,x⟩
 ·by_cases c:j=i
  ·have:=(r (d j c v)).1
   rw[c];exact this
  ·exact B j c
 ·by_cases c:j=i
  ·have r:=(r (d j c v)).2
   subst c
   have z:Ob.tok (some o')=some s:=by
    have:=A
    simp only[ctx,List.getElem?_set_self m] at this
    exact this
   obtain ⟨s0,f,n⟩:=r s z
   exact ⟨s0,by simp only[ctx,q];exact f,n⟩
  ·refine ⟨s,?_,.inl ⟨rfl,C j c⟩⟩
   have:=A
   simp only[ctx,List.getElem?_set_ne (λe=>c e.symm)] at this
   exact this
theorem HOk.turn (k:HOk B w g h) (x:h[i]? =some o) (G:w.grownBy w' (o.blk g i)) (F:∀j,j≠i->g'.β j=g.β j) (A:∀j,j≠i->g'.cur j=g.cur j)
  (E:∀b,o'.blk g' i=some b->o.blk g i=some b∨w.heap.size<=b) (D:Le (ctx w g h) (ctx w' g' (h.set i o'))) (C:o'.ok B w' (ctx w' g' (h.set i o')) i):HOk B w' g' (h.set i o'):=by
 have s:=xO x
 have l:∀(j:Nat) (p:Ob),j≠i->p.blk g' j=p.blk g j:=λj p y=>JP (F j y) (A j y)
 refine ⟨λj p a=>?_,λu t p q b v a m c f=>?_⟩
 ·by_cases d:j=i
  ·subst d
   rw[List.getElem?_set_self s] at a
   injection a with a
   subst a
   exact C
  ·rw[List.getElem?_set_ne (λe=>d e.symm)] at a
   refine Ob.ok_le (g:=g) (zba a) (k.ok j p a) D (A j d) rfl rfl λb z=>?_
   exact G.block b (k.lt a z).2 λe=>k.apart j i p o b d a x z e.symm
 ·have key:∀(j:Nat) (p:Ob) (b:Nat),j≠i->h[j]? =some p->p.blk g j=some b->o'.blk g' i≠some b:=λj p b d a c e=>by
   rcases E b e with r | r
   ·exact k.apart j i p o b d a x c r
   ·have:=(k.lt a c).2;omega
  by_cases r:u=i
  ·subst r
   have n:t≠u:=λe=>v e.symm
   rw[List.getElem?_set_self s] at a
   injection a with a
   subst a
   rw[List.getElem?_set_ne (λe=>n e.symm)] at m
   rw[l t q n] at f
   exact key t q b n m f c
  ·rw[List.getElem?_set_ne (λe=>r e.symm)] at a
   rw[l u p r] at c
   by_cases n:t=i
   ·subst n
    rw[List.getElem?_set_self s] at m
    injection m with m
    subst m
    exact key u p b r a c f
   ·rw[List.getElem?_set_ne (λe=>n e.symm)] at m
    rw[l t q n] at f
    exact k.apart u t p q b v a m c f
theorem JQ {j:Nat} {p:Ob} (a:(h++[o])[j]? =some p):(j<h.length/\h[j]? =some p)∨(j=h.length/\p=o):=by
 rcases Nat.lt_or_ge j h.length with b | b
 ·rw[List.getElem?_append_left b] at a;exact .inl ⟨b,a⟩
 ·rw[List.getElem?_append_right b] at a
  have c:j - h.length=0:=by
   rcases Nat.eq_zero_or_pos (j - h.length) with e | e
   ·exact e
   ·rw[List.getElem?_eq_none (by simp;omega)] at a;cases a
  rw[c] at a
  injection a with a
  exact .inr ⟨by omega,a.symm⟩
theorem Le.more (v:Below w.heap.size w w') (m:∀j,j<h.length->g'.β j=g.β j) (n:∀j,j<h.length->g'.cur j=g.cur j) (r:∀b,o.blk g' h.length=some b->w.heap.size<=b):Le (ctx w g h) (ctx w' g' (h++[o])):=by
 have l:∀j,(ctx w g h).live j->j<h.length:=λj ⟨p,d,_⟩=>xO d
 refine ⟨λa u t=>?_,by simp[ctx],λj ⟨p,d,i⟩=>⟨p,by rw[List.getElem?_append_left (xO d)];exact d,i⟩,λj c=>m j (l j c),λj c s x=>?_⟩
 ·obtain ⟨q,k⟩:=t
  have f:=World.block_lt_of_cell? w a k
  refine ⟨λ⟨j,p,d,e⟩=>?_,(World.cell?_of_block (w:=w) (v.block a.block f)).trans k⟩
  rcases JQ d with ⟨c,d⟩ | ⟨rfl,rfl⟩
  ·exact q ⟨j,p,d,by rw[JP (m j c) (n j c)] at e;exact e⟩
  ·have:=r _ e
   omega
 ·have c:=l j c
  refine ⟨s,?_,.inl ⟨rfl,n j c⟩⟩
  have:=x
  simp only[ctx,List.getElem?_append_left c] at this
  exact this
theorem HOk.more (k:HOk B w g h) (z:Below w.heap.size w w') (A:∀j,j<h.length->g'.β j=g.β j) (u:∀j,j<h.length->g'.cur j=g.cur j)
  (i:∀b,o.blk g' h.length=some b->w.heap.size<=b) (y:Le (ctx w g h) (ctx w' g' (h++[o]))) (x:o.ok B w' (ctx w' g' (h++[o])) h.length):HOk B w' g' (h++[o]):=by
 have c:∀(j:Nat) (p:Ob),j<h.length->p.blk g' j=p.blk g j:=λj p n=>JP (A j n) (u j n)
 refine ⟨λj p f=>?_,λt s p q b l f v d a=>?_⟩
 ·rcases JQ f with ⟨n,f⟩ | ⟨rfl,rfl⟩
  ·exact Ob.ok_le (g:=g) (zba f) (k.ok j p f) y (u j n) rfl rfl λb D=>z.block b (k.lt f D).2
  ·exact x
 ·rcases JQ f with ⟨C,m⟩ | ⟨rfl,rfl⟩
  ·rw[c t p C] at d
   rcases JQ v with ⟨r,e⟩ | ⟨rfl,rfl⟩
   ·rw[c s q r] at a
    exact k.apart t s p q b l m e d a
   ·have:=i b a
    have:=(k.lt m d).2
    omega
  ·rcases JQ v with ⟨r,e⟩ | ⟨rfl,rfl⟩
   ·rw[c s q r] at a
    have:=i b d
    have:=(k.lt e a).2
    omega
   ·exact l rfl
def Xz (n:Nat):Ob->Bool
 | .box _ cs=>zG n cs
 | .row _ _ xs _=>zU n xs
 | .mapo es=>es.all λx=>x.1.lt n && x.2.lt n
 | .raw _ _ ks _=>zG n ks
 | .gone | .res=>true
theorem Q7 (n:Nat):∀(a b:List AV),zG n a=true->zG n b=true->zG n (a++b)=true
 | [],_,_,h=>h
 | x::a,b,h,k=>by
   have h:x.lt n=true/\zG n a=true:=by simpa [zG] using h
   simp[zG,h.1,Q7 n a b h.2 k]
theorem ZS (n:Nat):∀(xs:List (List AV)),zU n xs=true->zG n xs.flatten=true
 | [],_=>rfl
 | r::rs,h=>by
   have h:zG n r=true/\zU n rs=true:=by simpa [zU] using h
   exact Q7 n r _ h.1 (ZS n rs h.2)
theorem xx (w:World) (g:Gh) (h L:List Ob):Less h.length (ctx w g (h++L)) (ctx w g h):=
 { rd:=λa u d=>⟨λ⟨j,p,e,k⟩=>d.1 ⟨j,p,by rw[List.getElem?_append_left (xO e)];exact e,k⟩,d.2⟩
   sz:=rfl
   live:=λi b ⟨o,c,f⟩=>⟨o,by rw[List.getElem?_append_left b] at c;exact c,f⟩
   β:=λ_ _=>rfl
   tok:=λi b=>by show Ob.tok _=Ob.tok _;rw[List.getElem?_append_left b]
   cur:=λ_ _=>rfl }
theorem MapRel.less {n:Nat} {c c':Ctx} (h:Less n c c'):∀(l:List (AV × AV)) (es:List MapEntry),(l.all λx=>x.1.lt n && x.2.lt n)=true->MapRel c l es->MapRel c' l es
 | [],_,_,e=>e
 | (a,b)::r,_,d,⟨e,q,g,f,j,i⟩=>by
   simp only[List.all_cons,Bool.and_eq_true] at d
   exact ⟨e,q,g,AR.less h _ _ d.1.1 f,AR.less h _ _ d.1.2 j,MapRel.less h r q d.2 i⟩
theorem HOk.take {L:List Ob} (k:HOk B w g (h++L)) (v:∀o∈h,Xz h.length o=true):HOk B w g h:=by
 have up:∀(j:Nat) (p:Ob),h[j]? =some p->(h++L)[j]? =some p:=λj p m=>by rw[List.getElem?_append_left (xO m)];exact m
 refine ⟨λi o q=>?_,λi j o p b s q y=>k.apart i j o p b s (up i o q) (up j p y)⟩
 have c:=k.ok i o (up i o q)
 have a:=v o (List.mem_of_getElem? q)
 have r:=xx w g h L
 cases o with
 | box ty cs=>
   obtain ⟨f,vs,d,n⟩:=c
   exact ⟨f,vs,d,ARs.less r _ _ a n⟩
 | row ty e xs st=>
   obtain ⟨f,u,cells,d,n⟩:=c
   exact ⟨f,u,cells,d,ARs.less r _ _ (ZS _ _ a) n⟩
 | mapo l=>
   obtain ⟨f,vs,k,l',d,m,n,z⟩:=c
   refine ⟨f,vs,k,l',d,m,MapRel.less r _ _ ?_ n,z⟩
   have a:(l.all λx=>x.1.lt h.length && x.2.lt h.length)=true:=a
   rw[List.all_eq_true] at a⊢
   exact λx t=>a x (m.mem_iff.1 t)
 | raw l o ks us=>exact ⟨c.1,c.2.1,ARs.less r _ _ a c.2.2⟩
 | gone=>trivial
 | res=>trivial
def JR (φ:Nat->Ob) (i:Nat) (o:Ob):Ob:=if o.isRes then φ i else o
def fill (φ:Nat->Ob) (h:List Ob):List Ob:=h.mapIdx (JR φ)
def Upto (φ:Nat->Ob) (n:Nat):Prop:=∀i,n<=i->φ i= .res
theorem Upto.mono {φ:Nat->Ob} {n m:Nat} (k:Upto φ n) (h:n<=m):Upto φ m:=λi a=>k i (Nat.le_trans h a)
variable {φ:Nat->Ob}
theorem qm:(fill φ h).length=h.length:=by simp[fill]
theorem kT:(fill φ h)[i]? =h[i]?.map (JR φ i):=by simp[fill]
theorem zN (b:h[i]? =some o) (a:o.isRes=false):(fill φ h)[i]? =some o:=by
 rw[kT,b];simp[JR,a]
theorem qn (c:o.isRes=false):fill φ (h.set i o)=(fill φ h).set i o:=by
 apply List.ext_getElem?
 intro j
 rw[kT]
 by_cases a:i=j
 ·subst a
  by_cases b:i<h.length
  ·rw[List.getElem?_set_self b,List.getElem?_set_self (by rw[qm];exact b)];simp[JR,c]
  ·rw[List.getElem?_eq_none (by simp;omega),List.getElem?_eq_none (by simp[qm];omega)];rfl
 ·rw[List.getElem?_set_ne a,List.getElem?_set_ne a,kT]
theorem qR {L:List Ob} (b:Upto φ h.length):fill φ (h++L)=fill φ h++L:=by
 apply List.ext_getElem?
 intro j
 rw[kT]
 by_cases a:j<h.length
 ·rw[List.getElem?_append_left a,List.getElem?_append_left (by rw[qm];exact a),kT]
 ·rw[List.getElem?_append_right (by omega),List.getElem?_append_right (by rw[qm];omega),qm]
  cases d:L[j - h.length]? with
  | none=>rfl
  | some o=>
    simp only[Option.map_some,JR]
    split
    ·rename_i c
     rw[b j (by omega)]
     cases o<;>first | rfl | cases c
    ·rfl
theorem Yc:fill (λ_=> .res) h=h:=by
 apply List.ext_getElem?
 intro j
 rw[kT]
 cases h[j]? with
 | none=>rfl
 | some o=>simp only[Option.map_some,JR];cases o<;>rfl
def ResK (h h':List Ob):Prop:=∀i:Nat,h[i]? =some Ob.res->h'[i]? =some Ob.res
theorem ResK.refl:ResK h h:=λ_ k=>k
theorem ResK.trans {h'':List Ob} (a:ResK h h') (b:ResK h' h''):ResK h h'':=λi k=>b i (a i k)
theorem zC (c:h[i]? =some o) (b:o.isRes=false):ResK h (h.set i o'):=λj a=>by
 by_cases e:i=j
 ·subst e;rw[c] at a;injection a with a;subst a;cases b
 ·rw[List.getElem?_set_ne e];exact a
theorem zR {L:List Ob}:ResK h (h++L):=λj a=>by
 rw[List.getElem?_append_left (List.getElem?_eq_some_iff.1 a).1];exact a
end
inductive K where
 | int (k:IntKind) | bool | str | slice (e:TypeId) | struct (fs:List (Nat × TypeId)) | arr (n:Nat) (e:TypeId) | ptr (e:TypeId) | mapk (k e:TypeId) | other
structure Ty where
 ok:Bool
 agg:Bool
 sz:Nat
 bytes:Nat
 zero:Option (List Value)
 one:Bool
 kind:K
def kEa:TypeDesc->Bool
 | .struct _ | .array _ _=>true
 | _=>false
def kOf:TypeDesc->K
 | .int k=> .int k
 | .bool=> .bool
 | .string=> .str
 | .slice e=> .slice e
 | .struct a=> .struct (a.toList.map λf=>(f.offset,f.type))
 | .array n e=> .arr n e
 | .pointer e=> .ptr e
 | .map k e=> .mapk k e
 | _=> .other
def Xza:Option Value->Bool
 | some v=>v.oneCell'
 | none=>false
def zl (P:Program) (t:TypeId):Ty:=
 match P.underlying t,P.info? t with
 | some d,some i=>⟨true,kEa d,i.size,i.bytes,i.zero.map λv=>v.cells.toList,Xza i.zero,kOf d⟩
 | _,_=>⟨false,false,0,0,none,false,.other⟩
theorem qr {P:Program} {t:TypeId} (h:(zl P t).ok=true):∃d i,P.underlying t=some d/\P.info? t=some i/\zl P t=⟨true,kEa d,i.size,i.bytes,i.zero.map λv=>v.cells.toList,Xza i.zero,kOf d⟩:=by
 cases a:P.underlying t with
 | none=>rw[zl,a] at h;exact absurd h (by simp)
 | some d=>
   cases b:P.info? t with
   | none=>rw[zl,a,b] at h;exact absurd h (by simp)
   | some i=>exact ⟨d,i,rfl,rfl,by rw[zl,a,b]⟩
def nth:List AV->Nat->AV
 | [],_=> .bad
 | a::_,0=>a
 | _::r,n+1=>nth r n
def cut:List AV->Nat->Nat->Option (List AV)
 | _,0,0=>some []
 | [],_,_=>none
 | a::r,0,n+1=>(cut r 0 n).map (a:: ·)
 | _::r,k+1,n=>cut r k n
def lay:List AV->Nat->List AV->Option (List AV)
 | cs,0,[]=>some cs
 | [],_,_=>none
 | _::r,0,v::vs=>(lay r 0 vs).map (v:: ·)
 | a::r,k+1,vs=>(lay r k vs).map (a:: ·)
def ofV:Value->AV
 | .agg cs=> .ag (cs.toList.map .v)
 | x=> .v x
def ev (T:Nat->AV):Operand->AV
 | .tmp i=>T i
 | .const x=>ofV x
 | .func f=> .fn (.func f) [] []
 | .global _=> .bad
def AV.one:AV->Bool
 | .v x=>x.oneCell'
 | .ag _ | .tup _ | .bad=>false
 | _=>true
def AV.cells:AV->Option (List AV)
 | .ag cs=>if cs.all AV.one then some cs else none
 | .tup _ | .bad=>none
 | .v x=>if x.oneCell' then some [.v x] else none
 | a=>some [a]
def part (cs:List AV) (k:Nat) (agg:Bool) (n:Nat):Option AV:=
 if agg then (cut cs k n).map .ag else if k<cs.length then some (nth cs k) else none
def eOf (h:List Ob):AV->Option Nat
 | .sl e _=>some e
 | .tl id _=>match h[id]? with
   | some (.row _ e _ _)=>some e
   | _=>none
 | .vw a e _ _=>(eOf h a).bind λb=>if b=e then some e else none
 | _=>none
def zq (h:List Ob):AV->Option (List (List AV))
 | .sl _ xs=>some xs
 | .tl id st=>match h[id]? with
   | some (.row _ _ xs s)=>if s=st then some xs else none
   | _=>none
 | .vw a e i n=>(zq h a).bind λxs=>if i+n<=xs.length/\(n=0∨eOf h a=some e) then some ((xs.drop i).take n) else none
 | .v (.slice none 0 _)=>some []
 | .em=>some []
 | _=>none
section
variable {c:Ctx}
theorem kC:∀ {aZ:List AV} {vs:List Value},ARs c aZ vs->aZ.length=vs.length
 | [],vs,e=>by have e:vs=[]:=e;rw[e];rfl
 | a::aZ,vs,⟨v,r,b,_,d⟩=>by rw[b];simp[kC d]
theorem vM:∀ {aZ:List AV} {vs:List Value},ARs c aZ vs->∀i,i<aZ.length->∃u,vs[i]? =some u/\AR c (nth aZ i) u
 | a::aZ,vs,⟨v,r,b,d,e⟩,0,_=>⟨v,by rw[b];rfl,d⟩
 | a::aZ,vs,⟨v,r,b,d,e⟩,i+1,f=>by
   obtain ⟨u,g,h⟩:=vM e i (by simpa using f)
   exact ⟨u,by rw[b];exact g,h⟩
theorem JS:∀ {aZ:List AV} {i:Nat} {a:AV},aZ[i]? =some a->nth aZ i=a
 | [],_,_,h=>by cases h
 | x::aZ,0,a,h=>by injection h
 | x::aZ,i+1,a,h=>JS (aZ:=aZ) (i:=i) h
theorem yc:∀ {aZ:List AV} {i:Nat},i<aZ.length->aZ[i]? =some (nth aZ i)
 | x::aZ,0,_=>rfl
 | x::aZ,i+1,h=>yc (aZ:=aZ) (i:=i) (by simpa using h)
theorem ZT:∀(vs:List Value),ARs c (vs.map .v) vs
 | []=>rfl
 | v::r=>⟨v,r,rfl,rfl,ZT r⟩
theorem vj:∀ {aZ b:List AV} {us vs:List Value},ARs c aZ us->ARs c b vs->ARs c (aZ++b) (us++vs)
 | [],b,us,vs,e,h=>by have e:us=[]:=e;subst e;exact h
 | a::aZ,b,us,vs,⟨u,r,d,f,g⟩,h=>by subst d;exact ⟨u,r++vs,rfl,f,vj g h⟩
theorem Va (x:Value):AR c (ofV x) x:=by
 unfold ofV
 split
 ·exact ⟨_,rfl,ZT _⟩
 ·rfl
theorem zca:∀ {aZ:List AV} {vs:List Value},ARs c aZ vs->∀(k n:Nat) {rs:List AV},cut aZ k n=some rs->ARs c rs ((vs.drop k).take n)/\k+n<=vs.length/\rs.length=n
 | [],vs,e,0,0,rs,h=>by have e:vs=[]:=e;cases h;rw[e];exact ⟨rfl,Nat.le_refl _,rfl⟩
 | [],_,_,k+1,n,rs,h=>by cases h
 | [],_,_,0,n+1,rs,h=>by cases h
 | a::aZ,vs,_,0,0,rs,h=>by cases h;simp[ARs]
 | a::aZ,vs,⟨u,r,b,j,i⟩,0,n+1,rs,h=>by
   unfold cut at h
   cases f:cut aZ 0 n with
   | none=>rw[f] at h;cases h
   | some q=>
     rw[f] at h
     injection h with h
     subst h
     subst b
     obtain ⟨g,l,d⟩:=zca i 0 n f
     exact ⟨⟨u,_,rfl,j,g⟩,by simp;omega,by simp[d]⟩
 | a::aZ,vs,⟨u,r,b,j,i⟩,k+1,n,rs,h=>by
   unfold cut at h
   subst b
   obtain ⟨g,l,d⟩:=zca i k n h
   exact ⟨g,by simp;omega,d⟩
theorem JU:∀ {aZ:List AV} {vs:List Value},ARs c aZ vs->∀(k:Nat) {ns rs:List AV} {us:List Value},ARs c ns us->lay aZ k ns=some rs->ARs c rs (vs.take k++us++vs.drop (k+us.length))/\k+us.length<=vs.length
 | aZ,vs,h,0,[],rs,us,d,e=>by
   have d:us=[]:=d
   subst d
   have:lay aZ 0 []=some aZ:=by cases aZ<;>rfl
   rw[this] at e
   cases e
   exact ⟨by simpa using h,by simp⟩
 | [],vs,e,k+1,ns,rs,us,d,h=>by cases h
 | [],vs,e,0,n::ns,rs,us,d,h=>by cases h
 | a::aZ,vs,⟨u,r,f,m,l⟩,0,n::ns,rs,us,⟨x,p,o,j,g⟩,h=>by
   unfold lay at h
   cases b:lay aZ 0 ns with
   | none=>rw[b] at h;cases h
   | some q=>
     rw[b] at h
     injection h with h
     subst h
     subst f
     subst o
     obtain ⟨i,s⟩:=JU l 0 g b
     exact ⟨⟨x,_,rfl,j,by simpa using i⟩,by simp;omega⟩
 | a::aZ,vs,⟨u,r,f,m,l⟩,k+1,ns,rs,us,d,h=>by
   unfold lay at h
   cases b:lay aZ k ns with
   | none=>rw[b] at h;cases h
   | some q=>
     rw[b] at h
     injection h with h
     subst h
     subst f
     obtain ⟨i,s⟩:=JU l k d b
     refine ⟨⟨u,_,rfl,m,?_⟩,by simp;omega⟩
     rw[show k+1+us.length=(k+us.length)+1 by omega]
     exact i
theorem KW:∀ {aZ:List AV} {k:Nat} {ns rs:List AV},lay aZ k ns=some rs->rs.length=aZ.length
 | aZ,0,[],rs,h=>by
   have:lay aZ 0 []=some aZ:=by cases aZ<;>rfl
   rw[this] at h;cases h;rfl
 | [],k+1,ns,rs,h=>by cases h
 | [],0,n::ns,rs,h=>by cases h
 | a::aZ,0,n::ns,rs,h=>by
   unfold lay at h
   cases b:lay aZ 0 ns with
   | none=>rw[b] at h;cases h
   | some q=>rw[b] at h;injection h with h;subst h;simp[KW b]
 | a::aZ,k+1,ns,rs,h=>by
   unfold lay at h
   cases b:lay aZ k ns with
   | none=>rw[b] at h;cases h
   | some q=>rw[b] at h;injection h with h;subst h;simp[KW b]
theorem z4a:∀ {a:AV} {u:Value},a.one=true->AR c a u->u.oneCell'=true/\u.cells= #[u]
 | .v x,u,h,e=>by
   have e:u=x:=e
   subst e
   refine ⟨h,?_⟩
   cases u<;>first | rfl | cases h
 | .sl _ _,u,_,⟨A,k,e,_⟩=>by subst e;exact ⟨rfl,rfl⟩
 | .ptr _ _,u,_,⟨_,e⟩=>by subst e;exact ⟨rfl,rfl⟩
 | .mp _,u,_,⟨_,e⟩=>by subst e;exact ⟨rfl,rfl⟩
 | .ep _ _ _ _,u,_,⟨A,m,b,_,_,e⟩=>by subst e;exact ⟨rfl,rfl⟩
 | .em,u,_,⟨A,k,e⟩=>by subst e;exact ⟨rfl,rfl⟩
 | .vw _ _ _ _,u,_,⟨A,m,b,d,k,_,_,_,e,_⟩=>by subst e;exact ⟨rfl,rfl⟩
 | .fn _ _ _,u,_,⟨us,vs,e,_⟩=>by subst e;exact ⟨rfl,rfl⟩
 | .tl id st,u,_,⟨⟨A,n,k,e⟩,_⟩=>by subst e;exact ⟨rfl,rfl⟩
theorem XA:∀ {aZ:List AV} {vs:List Value},aZ.all AV.one=true->ARs c aZ vs->∀v∈vs,v.oneCell'=true
 | [],vs,_,e,v,b=>by have e:vs=[]:=e;rw[e] at b;cases b
 | a::aZ,vs,h,⟨u,r,d,f,g⟩,v,b=>by
   rw[List.all_cons,Bool.and_eq_true] at h
   subst d
   rcases List.mem_cons.1 b with rfl | b
   ·exact (z4a h.1 f).1
   ·exact XA h.2 g v b
theorem Vb {a:AV} {u:Value} {cs:List AV} (h:a.cells=some cs) (l:AR c a u):ARs c cs u.cells.toList/\(∀v∈u.cells.toList,v.oneCell'=true):=by
 have key:a.one=true->cs=[a]->ARs c cs u.cells.toList/\(∀v∈u.cells.toList,v.oneCell'=true):=λd m=>by
  obtain ⟨j,g⟩:=z4a d l
  rw[m,g]
  exact ⟨⟨u,[],rfl,l,rfl⟩,by simpa using j⟩
 cases a with
 | v x=>
   simp only[AV.cells] at h
   split at h
   ·rename_i d;injection h with h;exact key d h.symm
   ·cases h
 | sl e xs=>injection h with h;exact key rfl h.symm
 | tl i s=>injection h with h;exact key rfl h.symm
 | ptr i o=>injection h with h;exact key rfl h.symm
 | em=>injection h with h;exact key rfl h.symm
 | vw a e i k=>injection h with h;exact key rfl h.symm
 | ep a e i k=>injection h with h;exact key rfl h.symm
 | mp i=>injection h with h;exact key rfl h.symm
 | fn f a b=>injection h with h;exact key rfl h.symm
 | ag aZ=>
   simp only[AV.cells] at h
   split at h
   ·rename_i d
    injection h with h
    subst h
    obtain ⟨vs,j,g⟩:=l
    subst j
    exact ⟨g,XA d g⟩
   ·cases h
 | tup _=>cases h
 | bad=>cases h
theorem zda (A:Option Addr) (e:Nat):∀(xs:List (List AV)) (a i:Nat) (r:List AV),ARows c A e a xs->xs[i]? =some r->r.length=e/\ACells c A ((a+i)*e) r
 | r::rs,a,0,_,⟨b,_⟩,h=>by injection h with h;subst h;exact b
 | r::rs,a,i+1,q,⟨_,d⟩,f=>by
   have:=zda A e rs (a+1) i q d f
   rw[show a+1+i=a+(i+1) by omega] at this
   exact this
theorem z5a (A:Option Addr):∀(aZ:List AV) (k0 k:Nat) (a:AV),ACells c A k0 aZ->aZ[k]? =some a->∃b u,A=some b/\c.rd (b.add (k0+k)) u/\AR c a u
 | a::aZ,k0,0,_,⟨d,_⟩,h=>by injection h with h;subst h;exact d
 | a::aZ,k0,k+1,q,⟨_,e⟩,f=>by
   have:=z5a A aZ (k0+1) k q e f
   rw[show k0+1+k=k0+(k+1) by omega] at this
   exact this
theorem ye {α:Type} {e:Nat}:∀ {xs:List (List α)},(∀x∈xs,x.length=e)->∀ {i k:Nat} {r:List α} {a:α},xs[i]? =some r->r[k]? =some a->xs.flatten[i*e+k]? =some a
 | x::xs,h,0,k,r,a,b,c=>by
   injection b with b
   subst b
   rw[List.flatten_cons,List.getElem?_append_left (by have:=(List.getElem?_eq_some_iff.1 c).1;omega)]
   simpa using c
 | x::xs,h,i+1,k,r,a,b,c=>by
   have d:x.length=e:=h x (by simp)
   have:=ye (xs:=xs) (λy f=>h y (by simp[f])) (i:=i) b c
   rw[List.flatten_cons,List.getElem?_append_right (by rw[d,Nat.succ_mul];omega),d]
   rw[show (i+1)*e+k - e=i*e+k by rw[Nat.succ_mul];omega]
   exact this
theorem xP {α:Type} {e:Nat}:∀ {xs:List (List α)},(∀x∈xs,x.length=e)->xs.flatten.length=xs.length*e
 | [],_=>by simp
 | x::xs,h=>by
   rw[List.flatten_cons,List.length_append,xP (λy a=>h y (by simp[a])),h x (by simp),List.length_cons,Nat.succ_mul]
   omega
end
structure RowsAt (w:World) (c:Ctx) (e:Nat) (xs:List (List AV)) (A:Option Addr):Prop where
 len:∀r∈xs,r.length=e
 cell:∀(i k:Nat) (r:List AV) (a:AV),xs[i]? =some r->r[k]? =some a->∃ad u,A=some ad/\w.cell? (ad.add (i*e+k))=some u/\AR c a u
section
variable {B:Nat} {w:World} {g:Gh} {h:List Ob}
theorem ZU {id st:Nat} {u:Value} (b:AR (ctx w g h) (.tl id st) u) {ty e:Nat} {xs:List (List AV)} (a:h[id]? =some (.row ty e xs st)):u=g.cur id:=
 (b.2.2 st (by simp[ctx,a,Ob.tok])).2 rfl
theorem vk {D:Nat} {e:TypeId} {size:Nat} {v:Value} {k:Nat} {xs:List Value} (h:w.ownsRow D e size v k xs):∃A a,v= .slice A k a/\k<=a:=by
 rcases h.2 with ⟨c,b⟩ | ⟨g,cap,cur,d,_,_,f,_⟩
 ·subst b;exact ⟨none,0,c,Nat.le_refl _⟩
 ·exact ⟨_,cap,d,f⟩
theorem kD (Y:HOk B w g h):∀(a:AV) {u:Value} {xs:List (List AV)},AR (ctx w g h) a u->zq h a=some xs->
  ∃A k,u= .slice A xs.length k/\xs.length<=k/\(∀e,eOf h a=some e->RowsAt w (ctx w g h) e xs A)/\(eOf h a=none->xs=[])
 | .sl e ys,u,xs,l,b=>by
   injection b with b
   subst b
   obtain ⟨A,k,z,t,C⟩:=l
   refine ⟨A,k,z,t,λU c=>?_,λc=>by cases c⟩
   injection c with c
   subst c
   refine ⟨λr b=>?_,λi k r a y E=>?_⟩
   ·obtain ⟨i,y,o⟩:=List.mem_iff_getElem.1 b
    exact (zda A e _ 0 i r C (by rw[List.getElem?_eq_getElem y,o])).1
   ·have:=zda A e _ 0 i r C y
    obtain ⟨V,u,o,F,I⟩:=z5a A r _ k a this.2 E
    rw[Nat.zero_add] at F
    exact ⟨V,u,o,F.2,I⟩
 | .tl id st,u,xs,l,b=>by
   simp only[zq] at b
   split at b
   ·rename_i ty e ys s H
    split at b
    ·rename_i hs
     injection b with b
     subst hs
     subst b
     have hc:=ZU l H
     obtain ⟨h0,z,cells,t,C⟩:=Y.ok id _ H
     obtain ⟨A,K,o,F⟩:=vk t
     refine ⟨A,K,hc.trans o,F,λU c=>?_,λc=>by simp[eOf,H] at c⟩
     simp only[eOf,H,Option.some.injEq] at c
     subst c
     refine ⟨z,λi k r a y E=>?_⟩
     have S:=ye z y E
     obtain ⟨u,P,D⟩:=vM C _ (List.getElem?_eq_some_iff.1 S).1
     rw[JS S] at D
     rcases t.2 with ⟨I,W⟩ | ⟨Z,cap,cur,hv,_⟩
     ·have:=(List.getElem?_eq_some_iff.1 y).1
      omega
     ·have T:A=some ⟨Z,0,none⟩:=by
       have q:g.cur id= .slice A ys.length K:=o
       have G:g.cur id=_:=hv
       rw[q] at G
       injection G
      refine ⟨_,u,T,?_,D⟩
      have q:g.cur id= .slice A ys.length K:=o
      exact World.ownsRow.cells t (g:=Z) (by show (g.cur id).ownBlock=_;rw[q,T];rfl) _ u P
    ·cases b
   ·cases b
 | .vw a e i n,u,xs,l,b=>by
   have ih:= @kD Y a
   obtain ⟨A,m,K,A',k,z,t,C,h4,h5,_⟩:=l
   simp only[zq] at b
   cases p:zq h a with
   | none=>rw[p] at b;cases b
   | some ys=>
     rw[p] at b
     simp only[Option.bind_some] at b
     split at b
     ·rename_i O
      injection b with b
      subst b
      obtain ⟨A0,k0,o,F,I,W⟩:=ih z p
      injection o with e5 e6 e7
      subst e5 e6 e7
      have f:((ys.drop i).take n).length=n:=by simp;omega
      refine ⟨A',k,by rw[f];exact h4,by rw[f];exact C,λU c=>?_,λc=>?_⟩
      ·simp only[eOf] at c
       cases d:eOf h a with
       | none=>rw[d] at c;cases c
       | some J=>
         rw[d] at c
         simp only[Option.bind_some] at c
         split at c
         ·rename_i N
          injection c with c
          subst N c
          have X:=I _ d
          refine ⟨λr b=>X.len r (List.mem_of_mem_drop (List.mem_of_mem_take b)),λj k r a M E=>?_⟩
          have L:j<n:=by
           have:=(List.getElem?_eq_some_iff.1 M).1
           rw[f] at this;exact this
          rw[List.getElem?_take,if_pos L,List.getElem?_drop] at M
          obtain ⟨V,u,z1,z2,z3⟩:=X.cell (i+j) k r a M E
          obtain ⟨γ,z4,z5⟩:=h5 (by omega)
          rw[z1] at z4
          injection z4 with z4
          subst z4
          refine ⟨_,u,z5,?_,z3⟩
          rw[Addr.add_add,show i*J+(j*J+k)=(i+j)*J+k by rw[Nat.add_mul];omega]
          exact z2
         ·cases c
      ·simp only[eOf] at c
       cases R:(ys.drop i).take n with
       | nil=>rfl
       | cons r rs=>
         exfalso
         have b:r∈ys:=List.mem_of_mem_drop (List.mem_of_mem_take (by rw[R];simp:r∈(ys.drop i).take n))
         cases d:eOf h a with
         | none=>rw[W d] at b;cases b
         | some J=>
           rw[d] at c
           simp only[Option.bind_some] at c
           split at c
           ·cases c
           ·rename_i Q
            rcases O.2 with h0 | h0
            ·rw[h0] at R;simp at R
            ·rw[d] at h0;injection h0 with h0;exact Q h0
     ·cases b
 | .v x,u,xs,l,b=>by
   have l:u=x:=l
   subst l
   unfold zq at b
   split at b
   ·rename_i heq;cases heq
   ·rename_i heq;cases heq
   ·rename_i heq;cases heq
   ·rename_i k heq
    injection b with b
    subst b
    injection heq with heq
    exact ⟨none,k,heq,Nat.zero_le _,λe c=>by simp[eOf] at c,λ_=>rfl⟩
   ·rename_i heq;cases heq
   ·cases b
 | .em,u,xs,⟨A,k,e⟩,b=>by
   injection b with b
   subst b
   exact ⟨_,k,e,Nat.zero_le _,λe c=>by simp[eOf] at c,λ_=>rfl⟩
 | .ptr _ _,_,_,_,b | .ep _ _ _ _,_,_,_,b | .mp _,_,_,_,b | .ag _,_,_,_,b | .tup _,_,_,_,b | .fn _ _ _,_,_,_,b | .bad,_,_,_,b=>by cases b
end
structure Good (B:Nat) (w:World) (g:Gh) (h:List Ob) (w':World) (g':Gh) (h':List Ob):Prop where
 ok:HOk B w' g' h'
 le:Le (ctx w g h) (ctx w' g' h')
 below:Below B w w'
 size:B<=w'.heap.size
section
variable {B:Nat} {w w' w'':World} {g g' g'':Gh} {h h' h'':List Ob} {P:Program}
theorem Good.refl (a:HOk B w g h) (hB:B<=w.heap.size):Good B w g h w g h:=⟨a,Le.refl _,Below.refl _ _,hB⟩
theorem Good.trans (a:Good B w g h w' g' h') (b:Good B w' g' h' w'' g'' h''):Good B w g h w'' g'' h'':=
 ⟨b.ok,a.le.trans b.le,a.below.trans b.below,b.size⟩
theorem Good.drew (b:HOk B w g h) (hB:B<=w.heap.size):Good B w g h w.drew g h:=
 have a:∀D,Below D w w.drew:=λ_=>⟨rfl,rfl,rfl,Nat.le_refl _,λ_ _=>rfl⟩
 ⟨b.ext (a _),Le.ext (a _),a _,hB⟩
def PartAt (w:World) (c:Ctx) (b:Addr) (cs:List AV):Prop:=∀(k:Nat) (a:AV),cs[k]? =some a->∃u,w.cell? (b.add k)=some u/\AR c a u
theorem zea:∀ {aZ:List AV} {k n:Nat} {rs:List AV},cut aZ k n=some rs->∀j,j<n->aZ[k+j]? =rs[j]? /\j<rs.length
 | _,0,0,_,_,j,c=>by omega
 | [],k+1,n,rs,h,_,_=>by cases h
 | [],0,n+1,rs,h,_,_=>by cases h
 | a::aZ,0,n+1,rs,h,j,c=>by
   unfold cut at h
   cases b:cut aZ 0 n with
   | none=>rw[b] at h;cases h
   | some q=>
     rw[b] at h
     injection h with h
     subst h
     cases j with
     | zero=>simp
     | succ j=>
       have:=zea b j (by omega)
       simp only[Nat.zero_add,List.getElem?_cons_succ,List.length_cons] at this⊢
       exact ⟨this.1,by omega⟩
 | a::aZ,k+1,n,rs,h,j,c=>by
   unfold cut at h
   have:=zea h j c
   rw[show k+1+j=(k+j)+1 by omega,List.getElem?_cons_succ]
   exact this
theorem KX:∀ {aZ:List AV} {k n:Nat} {rs:List AV},cut aZ k n=some rs->rs.length=n
 | aZ,0,0,_,h=>by
   have:cut aZ 0 0=some []:=by cases aZ<;>rfl
   rw[this] at h;cases h;rfl
 | [],k+1,n,rs,h=>by cases h
 | [],0,n+1,rs,h=>by cases h
 | a::aZ,0,n+1,rs,h=>by
   unfold cut at h
   cases b:cut aZ 0 n with
   | none=>rw[b] at h;cases h
   | some q=>rw[b] at h;injection h with h;subst h;simp[KX b]
 | a::aZ,k+1,n,rs,h=>by unfold cut at h;exact KX h
theorem j1a {c:Ctx}:∀ {aZ:List AV} {vs:List Value},aZ.length=vs.length->(∀(k:Nat) (a:AV),aZ[k]? =some a->∃u:Value,vs[k]? =some u/\AR c a u)->ARs c aZ vs
 | [],[],_,_=>rfl
 | [],_::_,h,_=>by cases h
 | _::_,[],h,_=>by cases h
 | a::aZ,v::vs,f,h=>by
   obtain ⟨u,d,e⟩:=h 0 a rfl
   injection d with d
   subst d
   exact ⟨_,_,rfl,e,j1a (by simpa using f) λk b g=>h (k+1) b g⟩
theorem PartAt.vals {c:Ctx} {g:Addr}:∀ {cs:List AV},PartAt w c g cs->∃vs:List Value,ARs c cs vs/\∀(j:Nat) (u:Value),vs[j]? =some u->w.cell? (g.add j)=some u:=by
 intro cs n
 have:∀k,∃u,k<cs.length->(w.cell? (g.add k)=some u/\AR c (nth cs k) u):=λk=>by
  by_cases d:k<cs.length
  ·obtain ⟨u,m,l⟩:=n k _ (yc d);exact ⟨u,λ_=>⟨m,l⟩⟩
  ·exact ⟨undef,λh=>absurd h d⟩
 obtain ⟨f,i⟩:=Classical.axiomOfChoice this
 refine ⟨(List.range cs.length).map f,j1a (by simp) λk a d=>?_,λj u e=>?_⟩
 ·have b:=(List.getElem?_eq_some_iff.1 d).1
  refine ⟨f k,by simp[b],?_⟩
  have:=(i k b).2
  rw[JS d] at this
  exact this
 ·by_cases b:j<cs.length
  ·simp[b] at e
   subst e
   exact (i j b).1
  ·have:j<((List.range cs.length).map f).length:=(List.getElem?_eq_some_iff.1 e).1
   simp at this
   omega
theorem XB {c:Ctx} {t:TypeId} (B:(zl P t).ok=true) {p:Addr} {cs:List AV} (z:PartAt w c p cs) {k:Nat} {x:AV} (b:part cs k (zl P t).agg (zl P t).sz=some x):
  ∃v,(loadVar t (p.add k)).run P w= .ok v w/\AR c x v:=by
 obtain ⟨d,i,E,A,e⟩:=qr B
 rw[e] at b
 simp only[part] at b
 have m:∀n rs,cut cs k n=some rs->PartAt w c (p.add k) rs:=λn rs g j a y=>by
  have r:=KX g
  have D:=(List.getElem?_eq_some_iff.1 y).1
  have:=zea g j (by omega)
  obtain ⟨u,h,l⟩:=z (k+j) a (this.1.trans y)
  exact ⟨u,by rw[Addr.add_add];exact h,l⟩
 have f:(isAgg t).run P w= .ok (kEa d) w:=by
  simp only[isAgg,Sem.run_bind,run_underlying E,Result.andThen_ok]
  cases d<;>rfl
 have s:(sizeOf t).run P w= .ok i.size w:=by simp[sizeOf,typeInfo,A]
 split at b
 ·rename_i q
  cases g:cut cs k i.size with
  | none=>rw[g] at b;cases b
  | some rs=>
    rw[g] at b
    injection b with b
    subst b
    obtain ⟨vs,h,l⟩:=(m _ _ g).vals
    have o:vs.length=i.size:=by rw[<-kC h,KX g]
    have r:=run_loadCells_list (P:=P) w (p.add k) vs l
    rw[o] at r
    refine ⟨.agg vs.toArray,?_,vs.toArray,rfl,by simpa using h⟩
    simp only[loadVar,Sem.run_bind,f,Result.andThen_ok,q,if_true,s,r,Sem.run_pure]
 ·rename_i q
  split at b
  ·rename_i C
   injection b with b
   subst b
   obtain ⟨u,h,l⟩:=z k _ (yc C)
   refine ⟨u,?_,l⟩
   simp only[loadVar,Sem.run_bind,f,Result.andThen_ok,q,if_false,Bool.false_eq_true,run_load,h]
  ·cases b
theorem Vc (j:HOk B w g h) {id:Nat} {ty:TypeId} {cs:List AV} (f:h[id]? =some (.box ty cs)):PartAt w (ctx w g h) ⟨g.β id,0,none⟩ cs:=λk a c=>by
 obtain ⟨m,vs,e,l⟩:=j.ok id _ f
 obtain ⟨u,i,d⟩:=vM l k (List.getElem?_eq_some_iff.1 c).1
 rw[JS c] at d
 refine ⟨u,?_,d⟩
 have b:w.heap[g.β id]? =some (.cells vs ty (0,0)):=e
 rw[Addr.add_lit]
 simp only[World.cell?,b,Nat.zero_add]
 simpa using i
theorem ZV (w:World) (b:Nat) (vs:Array Value):w.grownBy (w.setRow b vs) (some b):=
 ⟨rfl,rfl,rfl,by simp,λk _ a=>setRow_other w b k vs λe=>a (by rw[e])⟩
theorem yaa (l:HOk B w g h) (hB:B<=w.heap.size) {id:Nat} {ty:TypeId} {cs cs':List AV} (c:h[id]? =some (.box ty cs)) {a:Array Value} (n:ARs (ctx w g h) cs' a.toList):
  Good B w g h (w.setRow (g.β id) a) g (h.set id (.box ty cs')):=by
 have f:=ZV w (g.β id) a
 have d:=Le.turn (g':=g) (o':= .box ty cs') c rfl f (λ_ _=>rfl) (λ_ _=>rfl) (λb i=> .inl i) (λ_=>⟨rfl,λs o=>by cases o⟩)
 obtain ⟨j,vs,m,p⟩:=l.ok id _ c
 refine ⟨l.turn c f (λ_ _=>rfl) (λ_ _=>rfl) (λb i=> .inl i) d ⟨j,a,setRow_heap w _ vs a ty (0,0) m,ARs.le d _ _ n⟩,d,?_,by simpa using hB⟩
 exact (Below.refl B w).grown f hB λk e=>by injection e with e;subst e;exact j
theorem yC (u:HOk B w g h) (hB:B<=w.heap.size) {id:Nat} {ty e:Nat} {xs xs':List (List AV)} {st:Nat} (l:h[id]? =some (.row ty e xs st)) (y:∀x∈xs',x.length=e) {v':Value} {cells:List Value} {st':Nat}
  (f:w.grownBy w' (g.cur id).ownBlock) (c:w'.ownsRow B ty e v' xs'.length cells) (A:ARs (ctx w g h) xs'.flatten cells) (q:st'=st/\v'=g.cur id∨st<st') (m:∀b,v'.ownBlock=some b->(g.cur id).ownBlock=some b∨w.heap.size<=b):
  Good B w g h w' ⟨g.β,λj=>if j=id then v' else g.cur j⟩ (h.set id (.row ty e xs' st')):=by
 have t:∀j,j≠id->(if j=id then v' else g.cur j)=g.cur j:=λj z=>if_neg z
 have a:∀b,(Ob.row ty e xs' st').blk ⟨g.β,λj=>if j=id then v' else g.cur j⟩ id=some b->(Ob.row ty e xs st).blk g id=some b∨w.heap.size<=b:=λb r=>by
  simp only[Ob.blk,if_true] at r;exact m b r
 have p:=Le.turn (g':=⟨g.β,λj=>if j=id then v' else g.cur j⟩) (o':= .row ty e xs' st') l rfl f (λ_ _=>rfl) t a (λ_=>⟨rfl,λs n=>by
  injection n with n
  subst n
  refine ⟨st,rfl,?_⟩
  rcases q with ⟨d,o⟩ | d
  ·exact .inl ⟨d,by simp[o]⟩
  ·exact .inr d⟩)
 obtain ⟨h0,d,i,o,C⟩:=u.ok id _ l
 refine ⟨u.turn l f (λ_ _=>rfl) t a p ⟨h0,y,cells,?_,ARs.le p _ _ A⟩,p,?_,Nat.le_trans hB f.size⟩
 ·simp only[ctx,if_true];exact c
 ·exact (Below.refl B w).grown f hB λk v=>(World.ownsRow.lt o k v).1
theorem yba (k:HOk B w g h) (hB:B<=w.heap.size) {ty:TypeId} {cs:List AV} {vs:Array Value} (i:ARs (ctx w g h) cs vs.toList):
  Good B w g h (w.alloc (.cells vs ty)) ⟨λj=>if j=h.length then w.heap.size else g.β j,g.cur⟩ (h++[.box ty cs])/\AR (ctx (w.alloc (.cells vs ty)) ⟨λj=>if j=h.length then w.heap.size else g.β j,g.cur⟩ (h++[.box ty cs])) (.ptr h.length 0) (.pointer (some ⟨w.heap.size,0,none⟩)):=by
 have a:∀D,D<=w.heap.size->Below D w (w.alloc (.cells vs ty)):=λD f=>(Below.refl D w).alloc f _
 have d:∀j,j<h.length->(if j=h.length then w.heap.size else g.β j)=g.β j:=λj l=>if_neg (by omega)
 have e:∀b,(Ob.box ty cs).blk ⟨λj=>if j=h.length then w.heap.size else g.β j,g.cur⟩ h.length=some b->w.heap.size<=b:=λb a=>by
  simp[Ob.blk] at a;omega
 have c:=Le.more (g:=g) (g':=⟨λj=>if j=h.length then w.heap.size else g.β j,g.cur⟩) (o:= .box ty cs) (a _ (Nat.le_refl _)) d (λ_ _=>rfl) e
 refine ⟨⟨k.more (a _ (Nat.le_refl _)) d (λ_ _=>rfl) e c ⟨by simp[ctx];exact hB,vs,?_,ARs.le c _ _ i⟩,c,a _ hB,by simp;omega⟩,⟨.box ty cs,by simp,rfl⟩,by simp[ctx]⟩
 simp only[ctx,if_true]
 exact heap_alloc_new w _
theorem ZW (q:HOk B w g h) (hB:B<=w.heap.size) {ty e:Nat} (m:0<e) {xs:List (List AV)} (n:∀x∈xs,x.length=e) {v':Value} {cells:List Value} (st:Nat)
  (c:Below w.heap.size w w') (a:w'.ownsRow B ty e v' xs.length cells) (p:ARs (ctx w g h) xs.flatten cells) (f:∀b,v'.ownBlock=some b->w.heap.size<=b):
  Good B w g h w' ⟨g.β,λj=>if j=h.length then v' else g.cur j⟩ (h++[.row ty e xs st])/\AR (ctx w' ⟨g.β,λj=>if j=h.length then v' else g.cur j⟩ (h++[.row ty e xs st])) (.tl h.length st) v':=by
 have k:∀j,j<h.length->(if j=h.length then v' else g.cur j)=g.cur j:=λj u=>if_neg (by omega)
 have i:∀b,(Ob.row ty e xs st).blk ⟨g.β,λj=>if j=h.length then v' else g.cur j⟩ h.length=some b->w.heap.size<=b:=λb c=>by
  simp only[Ob.blk,if_true] at c;exact f b c
 have d:=Le.more (g:=g) (g':=⟨g.β,λj=>if j=h.length then v' else g.cur j⟩) (o:= .row ty e xs st) c (λ_ _=>rfl) k i
 obtain ⟨A,r,t,_⟩:=vk a
 refine ⟨⟨q.more c (λ_ _=>rfl) k i d ⟨m,n,cells,?_,ARs.le d _ _ p⟩,d,c.mono hB,Nat.le_trans hB c.size⟩,⟨A,_,r,t⟩,⟨.row ty e xs st,by simp,rfl⟩,λs l=>?_⟩
 ·simp only[ctx,if_true];exact a
 ·simp[ctx,Ob.tok] at l
  subst l
  exact ⟨Nat.le_refl _,λ_=>by simp[ctx]⟩
theorem zfa (r:HOk B w g h) (hB:B<=w.heap.size) {i:Nat} (e:h[i]? =some .res) {o:Ob} (q:o.isRes=false) (a:Below w.heap.size w w') (f:∀j,j≠i->g'.β j=g.β j) (m:∀j,j≠i->g'.cur j=g.cur j)
  (c:∀b,o.blk g' i=some b->w.heap.size<=b) (n:Le (ctx w g h) (ctx w' g' (h.set i o))->o.ok B w' (ctx w' g' (h.set i o)) i):Good B w g h w' g' (h.set i o):=by
 have l:w.grownBy w' ((Ob.res).blk g i):=⟨a.os,a.tape,a.output,a.size,λk p _=>a.block k p⟩
 have d:=Le.turn (g':=g') (o':=o) e q l f m (λb a=> .inr (c b a)) (λh=>by cases h)
 exact ⟨r.turn e l f m (λb a=> .inr (c b a)) d (n d),d,a.mono hB,Nat.le_trans hB a.size⟩
theorem X4a (f:HOk B w g h) (hB:B<=w.heap.size) {i:Nat} (a:h[i]? =some .res) {ty:TypeId} {cs:List AV} {vs:Array Value} (d:ARs (ctx w g h) cs vs.toList):
  Good B w g h (w.alloc (.cells vs ty)) ⟨λj=>if j=i then w.heap.size else g.β j,g.cur⟩ (h.set i (.box ty cs))/\AR (ctx (w.alloc (.cells vs ty)) ⟨λj=>if j=i then w.heap.size else g.β j,g.cur⟩ (h.set i (.box ty cs))) (.ptr i 0) (.pointer (some ⟨w.heap.size,0,none⟩)):=by
 refine ⟨zfa f hB a rfl ((Below.refl _ w).alloc (Nat.le_refl _) _) (λj e=>if_neg e) (λ_ _=>rfl) (λb k=>?_) (λc=>⟨?_,vs,?_,ARs.le c _ _ d⟩),⟨.box ty cs,List.getElem?_set_self (xO a),rfl⟩,by simp[ctx]⟩
 ·simp[Ob.blk] at k;omega
 ·simp[ctx];exact hB
 ·simp only[ctx,if_true];exact heap_alloc_new w _
theorem X5a (q:HOk B w g h) (hB:B<=w.heap.size) {i:Nat} (d:h[i]? =some .res) {ty e:Nat} (l:0<e) {xs:List (List AV)} (m:∀x∈xs,x.length=e) {v':Value} {cells:List Value} (st:Nat)
  (c:Below w.heap.size w w') (a:w'.ownsRow B ty e v' xs.length cells) (p:ARs (ctx w g h) xs.flatten cells) (f:∀b,v'.ownBlock=some b->w.heap.size<=b):
  Good B w g h w' ⟨g.β,λj=>if j=i then v' else g.cur j⟩ (h.set i (.row ty e xs st))/\AR (ctx w' ⟨g.β,λj=>if j=i then v' else g.cur j⟩ (h.set i (.row ty e xs st))) (.tl i st) v':=by
 obtain ⟨A,r,t,_⟩:=vk a
 refine ⟨zfa q hB d rfl c (λ_ _=>rfl) (λj o=>if_neg o) (λb c=>?_) (λn=>⟨l,m,cells,?_,ARs.le n _ _ p⟩),⟨A,_,r,t⟩,⟨.row ty e xs st,List.getElem?_set_self (xO d),rfl⟩,λs k=>?_⟩
 ·simp only[Ob.blk,if_true] at c;exact f b c
 ·simp only[ctx,if_true];exact a
 ·simp[ctx,Ob.tok,List.getElem?_set_self (xO d)] at k
  subst k
  exact ⟨Nat.le_refl _,λ_=>by simp[ctx]⟩
theorem yca (i:HOk B w g h) (hB:B<=w.heap.size):
  Good B w g h (w.alloc (.map #[] 0)) ⟨λj=>if j=h.length then w.heap.size else g.β j,g.cur⟩ (h++[.mapo []])/\AR (ctx (w.alloc (.map #[] 0)) ⟨λj=>if j=h.length then w.heap.size else g.β j,g.cur⟩ (h++[.mapo []])) (.mp h.length) (.map (some w.heap.size)):=by
 have a:∀D,D<=w.heap.size->Below D w (w.alloc (.map #[] 0)):=λD f=>(Below.refl D w).alloc f _
 have c:∀j,j<h.length->(if j=h.length then w.heap.size else g.β j)=g.β j:=λj k=>if_neg (by omega)
 have e:∀b,(Ob.mapo []).blk ⟨λj=>if j=h.length then w.heap.size else g.β j,g.cur⟩ h.length=some b->w.heap.size<=b:=λb a=>by
  simp[Ob.blk] at a;omega
 have d:=Le.more (g:=g) (g':=⟨λj=>if j=h.length then w.heap.size else g.β j,g.cur⟩) (o:= .mapo []) (a _ (Nat.le_refl _)) c (λ_ _=>rfl) e
 refine ⟨⟨i.more (a _ (Nat.le_refl _)) c (λ_ _=>rfl) e d ⟨by simp[ctx];exact hB, #[],0,[],?_,List.Perm.refl _,rfl,List.nodup_nil⟩,d,a _ hB,by simp;omega⟩,⟨.mapo [],by simp,rfl⟩,by simp[ctx]⟩
 simp only[ctx,if_true]
 exact heap_alloc_new w _
theorem X6a (d:HOk B w g h) (hB:B<=w.heap.size) {i:Nat} (a:h[i]? =some .res):
  Good B w g h (w.alloc (.map #[] 0)) ⟨λj=>if j=i then w.heap.size else g.β j,g.cur⟩ (h.set i (.mapo []))/\AR (ctx (w.alloc (.map #[] 0)) ⟨λj=>if j=i then w.heap.size else g.β j,g.cur⟩ (h.set i (.mapo []))) (.mp i) (.map (some w.heap.size)):=by
 refine ⟨zfa d hB a rfl ((Below.refl _ w).alloc (Nat.le_refl _) _) (λj c=>if_neg c) (λ_ _=>rfl) (λb e=>?_) (λf=>⟨?_, #[],0,[],?_,List.Perm.refl _,rfl,List.nodup_nil⟩),⟨.mapo [],List.getElem?_set_self (xO a),rfl⟩,by simp[ctx]⟩
 ·simp[Ob.blk] at e;omega
 ·simp[ctx];exact hB
 ·simp only[ctx,if_true];exact heap_alloc_new w _
theorem ZX (w:World) (b:Nat) (o:Obj):w.grownBy { w with heap:=w.heap.setIfInBounds b o } (some b):=
 ⟨rfl,rfl,rfl,by simp,λk _ a=>Array.getElem?_setIfInBounds_ne (λe=>a (by rw[e]))⟩
theorem z6a (m:HOk B w g h) (hB:B<=w.heap.size) {id:Nat} {l l2 l':List (AV × AV)} (a:h[id]? =some (.mapo l)) {es':Array MapEntry} {k':Nat} (q:l2.Perm l') (p:MapRel (ctx w g h) l2 es'.toList) (o:(es'.toList.map (·.key)).Nodup):
  Good B w g h { w with heap:=w.heap.setIfInBounds (g.β id) (.map es' k') } g (h.set id (.mapo l')):=by
 have f:=ZX w (g.β id) (.map es' k')
 have d:=Le.turn (g':=g) (o':= .mapo l') a rfl f (λ_ _=>rfl) (λ_ _=>rfl) (λb i=> .inl i) (λ_=>⟨rfl,λs r=>by cases r⟩)
 obtain ⟨j,es,k,t,n,v,u,_⟩:=m.ok id _ a
 have c:g.β id<w.heap.size:=(Array.getElem?_eq_some_iff.1 n).1
 refine ⟨m.turn a f (λ_ _=>rfl) (λ_ _=>rfl) (λb i=> .inl i) d ⟨j,es',k',l2,?_,q,MapRel.le d _ _ p,o⟩,d,?_,by simpa using hB⟩
 ·show ({ w with heap:=w.heap.setIfInBounds (g.β id) (.map es' k') }:World).heap[g.β id]? =_
  simp[c]
 ·exact (Below.refl B w).grown f hB λk e=>by injection e with e;subst e;exact j
theorem Vd (i:HOk B w g h) (hB:B<=w.heap.size) (o:Obj) {ks:List AV} {us:List Value} (d:ARs (ctx w g h) ks us):Good B w g h (w.alloc o) g (h++[.raw w.heap.size o ks us]):=by
 have a:∀D,D<=w.heap.size->Below D w (w.alloc o):=λD f=>(Below.refl D w).alloc f _
 have e:∀b,(Ob.raw w.heap.size o ks us).blk g h.length=some b->w.heap.size<=b:=λb a=>by
  simp[Ob.blk] at a;omega
 have c:=Le.more (g:=g) (g':=g) (o:= .raw w.heap.size o ks us) (a _ (Nat.le_refl _)) (λ_ _=>rfl) (λ_ _=>rfl) e
 exact ⟨i.more (a _ (Nat.le_refl _)) (λ_ _=>rfl) (λ_ _=>rfl) e c ⟨hB,heap_alloc_new w _,ARs.le c _ _ d⟩,c,a _ hB,by simp;omega⟩
theorem yD (m:HOk B w g h) (hB:B<=w.heap.size) {id l:Nat} {o:Obj} {ks:List AV} {us:List Value} (a:h[id]? =some (.raw l o ks us)) (o':Obj):
  Good B w g h { w with heap:=w.heap.setIfInBounds l o' } g (h.set id (.raw l o' ks us)):=by
 have f:=ZX w l o'
 have d:=Le.turn (g':=g) (o':= .raw l o' ks us) a rfl f (λ_ _=>rfl) (λ_ _=>rfl) (λb i=> .inl i) (λ_=>⟨rfl,λs p=>by cases p⟩)
 obtain ⟨j,n,q⟩:=m.ok id _ a
 have c:l<w.heap.size:=(Array.getElem?_eq_some_iff.1 n).1
 refine ⟨m.turn a f (λ_ _=>rfl) (λ_ _=>rfl) (λb i=> .inl i) d ⟨j,?_,ARs.le d _ _ q⟩,d,?_,by simpa using hB⟩
 ·show ({ w with heap:=w.heap.setIfInBounds l o' }:World).heap[l]? =_
  simp[c]
 ·exact (Below.refl B w).grown f hB λk e=>by injection e with e;subst e;exact j
end
end Go.Proofs.YtfmldcilgbbimaaGreat.Ax
