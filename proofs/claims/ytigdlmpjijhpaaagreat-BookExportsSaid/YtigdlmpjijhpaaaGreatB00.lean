import Derived.Test.YtigdlmpjijhpaaaGreatBA
import Derived.Below
import Derived.Laws.AppendOwn
import Derived.Laws.Tables
import Derived.Laws.Cells
import Derived.Laws.Slices
import Derived.Laws.StructEq
import Derived.DataElems
set_option linter.all false
namespace Go.Proofs.YtigdlmpjijhpaaaGreat.Ax
open Go
inductive AV where
 | v (x:Value)
 | sl (e:Nat) (xs:List (List AV))
 | tl (id st:Nat)
 | em
 | vw (a:AV) (e i n:Nat)
 | ptr (id off:Nat)
 | ep (a:AV) (e i k:Nat)
 | mp (id:Nat)
 | ag (cs:List AV)
 | tup (cs:List AV)
 | fn (f:Fn) (first cs:List AV)
 | bad
structure Ctx where
 rd:Addr->Value->Prop
 n:Nat
 live:Nat->Prop
 β:Nat->Nat
 cur:Nat->Value
 tok:Nat->Option Nat
def Tok(c:Ctx)(id st:Nat)(u:Value):Prop:=c.live id/\∀s,c.tok id=some s->st<=s/\(st=s->u=c.cur id)
mutual
def AR(c:Ctx):AV->Value->Prop
 | .v x,u=>u=x
 | .sl e xs,u=>∃A k,u= .slice A xs.length k/\xs.length<=k/\ARows c A e 0 xs
 | .tl id st,u=>(∃A n k,u= .slice A n k)/\Tok c id st u
 | .em,u=>∃A k,u= .slice (some A) 0 k
 | .vw a e i n,u=>∃A m b d k,AR c a (.slice A m b)/\i+n<=m/\n<=k/\u= .slice d n k/\(0<n->∃g,A=some g/\d=some (g.add (i*e)))/\(i=0->(d=A∨d=A.map (·.add 0))/\k=b)
 | .ptr id off,u=>c.live id/\u= .pointer (some ⟨c.β id,off,none⟩)
 | .ep a e i k,u=>∃A m b,AR c a (.slice (some A) m b)/\i<m/\u= .pointer (some (A.add (i*e+k)))
 | .mp id,u=>c.live id/\u= .map (some (c.β id))
 | .ag cs,u=>∃vs,u= .agg vs/\ARs c cs vs.toList
 | .tup cs,u=>∃vs,u= .tuple vs/\ARs c cs vs.toList
 | .fn f h cs,u=>∃us vs,u= .func f us vs/\ARs c h us.toList/\ARs c cs vs.toList
 | .bad,_=>True
def ARs(c:Ctx):List AV->List Value->Prop
 | [],vs=>vs=[]
 | a::aZ,vs=>∃v r,vs=v::r/\AR c a v/\ARs c aZ r
def ARows(c:Ctx)(A:Option Addr)(e:Nat):Nat->List (List AV)->Prop
 | _,[]=>True
 | i,r::rs=>(r.length=e/\ACells c A (i*e) r)/\ARows c A e (i+1) rs
def ACells(c:Ctx)(A:Option Addr):Nat->List AV->Prop
 | _,[]=>True
 | k,a::aZ=>(∃b u,A=some b/\c.rd (b.add k) u/\AR c a u)/\ACells c A (k+1) aZ
end
structure Le (c c':Ctx):Prop where
 rd:∀a u,c.rd a u->c'.rd a u
 n:c.n<=c'.n
 live:∀i,c.live i->c'.live i
 β:∀i,c.live i->c'.β i=c.β i
 tok:∀i,c.live i->∀s,c'.tok i=some s->∃s0,c.tok i=some s0/\((s=s0/\c'.cur i=c.cur i)∨s0<s)
theorem Le.refl(c:Ctx):Le c c:=⟨λ_ _ h=>h,zn _,λ_ h=>h,λ_ _=>rfl,λ_ _ s h=>⟨s,h,.inl ⟨rfl,rfl⟩⟩⟩
theorem Le.trans{a b c:Ctx}(h:Le a b)(k:Le b c):Le a c:=
 ⟨λx u p=>k.rd x u (h.rd x u p),Nat.le_trans h.n k.n,λi hi=>k.live i (h.live i hi),λi hi=>(k.β i (h.live i hi)).trans (h.β i hi),λi hi s o=>by
  obtain⟨m,j,g⟩:=k.tok i (h.live i hi) s o
  obtain⟨s0,l,f⟩:=h.tok i hi m j
  refine⟨s0,l,?_⟩
  rcases g with⟨rfl,e⟩|e
  ·rcases f with⟨rfl,d⟩|d
   ·exact .inl ⟨rfl,e.trans d⟩
   ·exact .inr d
  ·rcases f with⟨rfl,_⟩|d
   ·exact .inr e
   ·exact .inr (by omega)⟩
theorem Tok.le{c c':Ctx}(h:Le c c'){id st:Nat}{u:Value}(a:Tok c id st u):Tok c' id st u:=
 ⟨h.live id a.1,λs j=>by
  obtain⟨s0,f,d⟩:=h.tok id a.1 s j
  obtain⟨i,g⟩:=a.2 s0 f
  rcases d with⟨rfl,b⟩|b
  ·exact⟨i,λe=>by rw[b];exact g e⟩
  ·exact⟨by omega,λe=>by omega⟩⟩
mutual
theorem AR.le{c c':Ctx}(h:Le c c'):∀(a:AV) (u:Value),AR c a u->AR c' a u
 | .v _,_,e=>e
 | .sl e xs,u,⟨A,k,b,d,g⟩=>⟨A,k,b,d,ARows.le h A e 0 xs g⟩
 | .tl id st,u,b=>⟨b.1,Tok.le h b.2⟩
 | .em,_,b=>b
 | .vw a e i n,u,⟨A,m,j,l,k,b,d⟩=>⟨A,m,j,l,k,AR.le h a _ b,d⟩
 | .ptr id off,u,⟨b,d⟩=>⟨h.live id b,by rw[h.β id b];exact d⟩
 | .ep a e i k,u,⟨A,m,j,b,d,g⟩=>⟨A,m,j,AR.le h a _ b,d,g⟩
 | .mp id,u,⟨b,d⟩=>⟨h.live id b,by rw[h.β id b];exact d⟩
 | .ag cs,u,⟨vs,b,d⟩=>⟨vs,b,ARs.le h cs _ d⟩
 | .tup cs,u,⟨vs,b,d⟩=>⟨vs,b,ARs.le h cs _ d⟩
 | .fn f o cs,u,⟨us,vs,b,d,g⟩=>⟨us,vs,b,ARs.le h o _ d,ARs.le h cs _ g⟩
 | .bad,_,_=>True.intro
theorem ARs.le{c c':Ctx}(h:Le c c'):∀(aZ:List AV) (vs:List Value),ARs c aZ vs->ARs c' aZ vs
 | [],_,e=>e
 | a::aZ,vs,⟨v,r,f,d,b⟩=>⟨v,r,f,AR.le h a v d,ARs.le h aZ r b⟩
theorem ARows.le{c c':Ctx}(h:Le c c')(A:Option Addr)(e:Nat):∀(i:Nat) (rs:List (List AV)),ARows c A e i rs->ARows c' A e i rs
 | _,[],_=>True.intro
 | i,r::rs,⟨⟨d,b⟩,a⟩=>⟨⟨d,ACells.le h A (i*e) r b⟩,ARows.le h A e (i+1) rs a⟩
theorem ACells.le{c c':Ctx}(h:Le c c')(A:Option Addr):∀(k:Nat) (aZ:List AV),ACells c A k aZ->ACells c' A k aZ
 | _,[],_=>True.intro
 | k,a::aZ,⟨⟨g,u,d,b,f⟩,e⟩=>⟨⟨g,u,d,h.rd _ _ b,AR.le h a u f⟩,ACells.le h A (k+1) aZ e⟩
end
mutual
def AV.lt(n:Nat):AV->Bool
 | .v _=>true
 | .sl _ xs=>qQ n xs
 | .tl id _=>decide (id<n)
 | .em=>true
 | .vw a _ _ _=>a.lt n
 | .ptr id _=>decide (id<n)
 | .ep a _ _ _=>a.lt n
 | .mp id=>decide (id<n)
 | .ag cs=>qz n cs
 | .tup cs=>qz n cs
 | .fn _ b cs=>qz n b && qz n cs
 | .bad=>true
def qz(n:Nat):List AV->Bool
 | []=>true
 | a::aZ=>a.lt n && qz n aZ
def qQ(n:Nat):List (List AV)->Bool
 | []=>true
 | r::rs=>qz n r && qQ n rs
end
structure Less (n:Nat) (c c':Ctx):Prop where
 rd:∀a u,c.rd a u->c'.rd a u
 sz:c'.n=n
 live:∀i,i<n->c.live i->c'.live i
 β:∀i,i<n->c'.β i=c.β i
 tok:∀i,i<n->c'.tok i=c.tok i
 cur:∀i,i<n->c'.cur i=c.cur i
mutual
theorem AR.less{n:Nat}{c c':Ctx}(h:Less n c c'):∀(a:AV) (u:Value),a.lt n=true->AR c a u->AR c' a u
 | .v _,_,_,e=>e
 | .sl e xs,u,l,⟨A,k,b,d,g⟩=>⟨A,k,b,d,ARows.less h A e 0 xs (by simpa [AV.lt] using l) g⟩
 | .tl id st,u,l,b=>by
   have l:id<n:=by simpa [AV.lt] using l
   exact⟨b.1,h.live id l b.2.1,λs p=>by rw[h.tok id l] at p;rw[h.cur id l];exact b.2.2 s p⟩
 | .em,_,_,b=>b
 | .vw a e i n,u,l,⟨A,m,j,q,k,b,d⟩=>⟨A,m,j,q,k,AR.less h a _ (by simpa [AV.lt] using l) b,d⟩
 | .ptr id off,u,l,⟨b,d⟩=>by
   have l:id<n:=by simpa [AV.lt] using l
   exact⟨h.live id l b,by rw[h.β id l];exact d⟩
 | .ep a e i k,u,l,⟨A,m,j,b,d,g⟩=>⟨A,m,j,AR.less h a _ (by simpa [AV.lt] using l) b,d,g⟩
 | .mp id,u,l,⟨b,d⟩=>by
   have l:id<n:=by simpa [AV.lt] using l
   exact⟨h.live id l b,by rw[h.β id l];exact d⟩
 | .ag cs,u,l,⟨vs,b,d⟩=>⟨vs,b,ARs.less h cs _ (by simpa [AV.lt] using l) d⟩
 | .tup cs,u,l,⟨vs,b,d⟩=>⟨vs,b,ARs.less h cs _ (by simpa [AV.lt] using l) d⟩
 | .fn f o cs,u,l,⟨us,vs,b,d,g⟩=>by
   have l:qz n o=true/\qz n cs=true:=by simpa [AV.lt] using l
   exact⟨us,vs,b,ARs.less h o _ l.1 d,ARs.less h cs _ l.2 g⟩
 | .bad,_,_,_=>True.intro
theorem ARs.less{n:Nat}{c c':Ctx}(h:Less n c c'):∀(aZ:List AV) (vs:List Value),qz n aZ=true->ARs c aZ vs->ARs c' aZ vs
 | [],_,_,e=>e
 | a::aZ,vs,l,⟨v,r,f,d,b⟩=>by
   have l:a.lt n=true/\qz n aZ=true:=by simpa [qz] using l
   exact⟨v,r,f,AR.less h a v l.1 d,ARs.less h aZ r l.2 b⟩
theorem ARows.less{n:Nat}{c c':Ctx}(h:Less n c c')(A:Option Addr)(e:Nat):∀(i:Nat) (rs:List (List AV)),qQ n rs=true->ARows c A e i rs->ARows c' A e i rs
 | _,[],_,_=>True.intro
 | i,r::rs,l,⟨⟨d,b⟩,a⟩=>by
   have l:qz n r=true/\qQ n rs=true:=by simpa [qQ] using l
   exact⟨⟨d,ACells.less h A (i*e) r l.1 b⟩,ARows.less h A e (i+1) rs l.2 a⟩
theorem ACells.less{n:Nat}{c c':Ctx}(h:Less n c c')(A:Option Addr):∀(k:Nat) (aZ:List AV),qz n aZ=true->ACells c A k aZ->ACells c' A k aZ
 | _,[],_,_=>True.intro
 | k,a::aZ,l,⟨⟨g,u,d,b,f⟩,e⟩=>by
   have l:a.lt n=true/\qz n aZ=true:=by simpa [qz] using l
   exact⟨⟨g,u,d,h.rd _ _ b,AR.less h a u l.1 f⟩,ACells.less h A (k+1) aZ l.2 e⟩
end
open Go.RowKit
inductive Ob where
 | box (ty:TypeId) (cs:List AV)
 | row (ty e:Nat) (xs:List (List AV)) (st:Nat)
 | mapo (es:List (AV × AV))
 | raw (l:Nat) (o:Obj) (ks:List AV) (us:List Value)
 | gone
 | res
def Ob.isRes:Ob->Bool
 | .res=>true
 | _=>false
structure Gh where
 β:Nat->Nat
 cur:Nat->Value
def Ob.blk(g:Gh)(i:Nat):Ob->Option Nat
 | .box _ _=>some (g.β i)
 | .row _ _ _ _=>(g.cur i).ownBlock
 | .mapo _=>some (g.β i)
 | .raw l _ _ _=>some l
 | .gone | .res=>none
def kept(g:Gh)(h:List Ob)(b:Nat):Prop:=∃(i:Nat) (o:Ob),h[i]? =some o/\o.blk g i=some b
def Ob.tok:Option Ob->Option Nat
 | some (.row _ _ _ st)=>some st
 | _=>none
def ctx(w:World)(g:Gh)(h:List Ob):Ctx:=
 { rd:=λa u=>¬ kept g h a.block/\w.cell? a=some u
   n:=h.length
   live:=λi=>∃o,h[i]? =some o/\o.isRes=false
   β:=g.β
   cur:=g.cur
   tok:=λi=>Ob.tok h[i]? }
def MapRel(c:Ctx):List (AV × AV)->List MapEntry->Prop
 | [],es=>es=[]
 | (k,v)::r,es=>∃e q,es=e::q/\AR c k e.key/\AR c v e.val/\MapRel c r q
theorem MapRel.le{c c':Ctx}(h:Le c c'):∀(l:List (AV × AV)) (es:List MapEntry),MapRel c l es->MapRel c' l es
 | [],_,e=>e
 | (_,_)::r,_,⟨e,q,d,b,a,f⟩=>⟨e,q,d,AR.le h _ _ b,AR.le h _ _ a,MapRel.le h r q f⟩
def Ob.ok(B:Nat)(w:World)(c:Ctx)(i:Nat):Ob->Prop
 | .box ty cs=>B<=c.β i/\∃vs,w.heap[c.β i]? =some (.cells vs ty (0,0))/\ARs c cs vs.toList
 | .row ty e xs _=>0<e/\(∀x∈xs,x.length=e)/\∃cells,w.ownsRow B ty e (c.cur i) xs.length cells/\ARs c xs.flatten cells
 | .mapo l=>B<=c.β i/\∃es k l',w.heap[c.β i]? =some (.map es k)/\l'.Perm l/\MapRel c l' es.toList/\(es.toList.map (·.key)).Nodup
 | .raw l o ks us=>B<=l/\w.heap[l]? =some o/\ARs c ks us
 | .gone | .res=>True
structure HOk (B:Nat) (w:World) (g:Gh) (h:List Ob):Prop where
 ok:∀(i:Nat) (o:Ob),h[i]? =some o->o.ok B w (ctx w g h) i
 apart:∀(i j:Nat) (o p:Ob) (b:Nat),i≠j->h[i]? =some o->h[j]? =some p->o.blk g i=some b->p.blk g j≠some b
section
variable {B:Nat} {w w':World} {g g':Gh} {h h':List Ob} {i:Nat} {o o':Ob}
theorem zMb{c:Ctx}(h:o.ok B w c i)(j:c.β=g.β)(m:c.cur=g.cur){b:Nat}(a:o.blk g i=some b):B<=b/\b<w.heap.size:=by
 cases o with
 | box ty cs=>
   obtain⟨f,vs,d,_⟩:=h
   rw[j] at f d
   injection a with a
   subst a
   exact⟨f,(qx.1 d).1⟩
 | row ty e xs st=>
   obtain⟨_,_,cells,d,_⟩:=h
   rw[m] at d
   exact World.ownsRow.lt d b a
 | mapo l=>
   obtain⟨f,vs,k,l',d,_⟩:=h
   rw[j] at f d
   injection a with a
   subst a
   exact⟨f,(qx.1 d).1⟩
 | raw l o ks us=>
   obtain⟨f,d,_⟩:=h
   injection a with a
   subst a
   exact⟨f,(qx.1 d).1⟩
 | gone=>cases a
 | res=>cases a
theorem HOk.lt(k:HOk B w g h)(hi:h[i]? =some o){b:Nat}(a:o.blk g i=some b):B<=b/\b<w.heap.size:=zMb (k.ok i o hi) rfl rfl a
theorem jka{D:Nat}{e:TypeId}{size:Nat}{v:Value}{k:Nat}{xs:List Value}(h:w.ownsRow D e size v k xs)(f:∀b,v.ownBlock=some b->w'.heap[b]? =w.heap[b]?):w'.ownsRow D e size v k xs:=by
 refine⟨h.1,?_⟩
 rcases h.2 with c|⟨g,cap,cur,a,d,i,r⟩
 ·exact .inl c
 ·subst a
  exact .inr ⟨g,cap,cur,rfl,d,(f g rfl).trans i,r⟩
theorem Ob.ok_le{c c':Ctx}(hi:o.isRes=false->c.live i)(d:o.ok B w c i)(a:Le c c')(u:c'.cur i=c.cur i)(q:c.β=g.β)(n:c.cur=g.cur)(m:∀b,o.blk g i=some b->w'.heap[b]? =w.heap[b]?):o.ok B w' c' i:=by
 cases o with
 | box ty cs=>
   obtain⟨h,vs,f,j⟩:=d
   have hi:=hi rfl
   refine⟨by rw[a.β i hi];exact h,vs,?_,ARs.le a _ _ j⟩
   rw[a.β i hi]
   exact(m _ (by rw[q];rfl)).trans f
 | row ty e xs st=>
   obtain⟨h,s,cells,f,j⟩:=d
   refine⟨h,s,cells,?_,ARs.le a _ _ j⟩
   rw[u]
   exact jka f λb p=>m b (by rw[n] at p;exact p)
 | mapo l=>
   obtain⟨h,vs,k,l',f,r,j,t⟩:=d
   have hi:=hi rfl
   refine⟨by rw[a.β i hi];exact h,vs,k,l',?_,r,MapRel.le a _ _ j,t⟩
   rw[a.β i hi]
   exact(m _ (by rw[q];rfl)).trans f
 | raw l o ks us=>exact⟨d.1,(m _ rfl).trans d.2.1,ARs.le a _ _ d.2.2⟩
 | gone=>trivial
 | res=>trivial
theorem Le.ext(d:Below w.heap.size w w'):Le (ctx w g h) (ctx w' g h):=
 ⟨λa _ b=>⟨b.1,(World.cell?_of_block (w:=w) (d.block a.block (World.block_lt_of_cell? w a b.2))).trans b.2⟩,zn _,λ_ h=>h,λ_ _=>rfl,λ_ _ s c=>⟨s,c,.inl ⟨rfl,rfl⟩⟩⟩
theorem vH(hi:h[i]? =some o):i<h.length:=(zd.1 hi).1
theorem jla(hi:h[i]? =some o)(a:o.isRes=false):(ctx w g h).live i:=⟨o,hi,a⟩
theorem HOk.ext(k:HOk B w g h)(a:Below w.heap.size w w'):HOk B w' g h:=
 ⟨λi o hi=>Ob.ok_le (g:=g) (jla hi) (k.ok i o hi) (Le.ext a) rfl rfl rfl λb c=>a.block b (k.lt hi c).2,k.apart⟩
theorem Ko{j:Nat}{p:Ob}(a:g'.β j=g.β j)(b:g'.cur j=g.cur j):p.blk g' j=p.blk g j:=by
 cases p with
 | box ty cs=>exact congrArg some a
 | row ty e n st=>exact congrArg Value.ownBlock b
 | mapo _=>exact congrArg some a
 | raw _ _ _ _=>rfl
 | gone=>rfl
 | res=>rfl
theorem Le.turn(hi:h[i]? =some o)(x:o'.isRes=false)(F:w.grownBy w' (o.blk g i))(C:∀j,j≠i->g'.β j=g.β j)(B:∀j,j≠i->g'.cur j=g.cur j)
  (E:∀b,o'.blk g' i=some b->o.blk g i=some b∨w.heap.size<=b)
  (q:o.isRes=false->g'.β i=g.β i/\∀s,Ob.tok (some o')=some s->∃s0,Ob.tok (some o)=some s0/\((s=s0/\g'.cur i=g.cur i)∨s0<s)):Le (ctx w g h) (ctx w' g' (h.set i o')):=by
 have m:=vH hi
 have d:∀j,j=i->(ctx w g h).live j->o.isRes=false:=λj e ⟨p,f,n⟩=>by
  subst e;rw[hi] at f;injection f with f;subst f;exact n
 refine⟨λa u D=>?_,by simp[ctx],λj ⟨p,k,r⟩=>?_,λj y=>?_,λj y s A=>?_⟩
 ·obtain⟨f,n⟩:=D
  have v:=World.block_lt_of_cell? w a n
  refine⟨λ⟨j,p,k,l⟩=>?_,?_⟩
  ·by_cases c:j=i
   ·subst c
    rw[zo m] at k
    injection k with k
    subst k
    rcases E _ l with z|z
    ·exact f ⟨j,o,hi,z⟩
    ·omega
   ·rw[zc (λe=>c e.symm)] at k
    exact f ⟨j,p,k,by rw[Ko (C j c) (B j c)] at l;exact l⟩
  ·exact(World.cell?_of_block (w:=w) (F.block a.block v (λe=>f ⟨i,o,hi,e.symm⟩))).trans n
 ·by_cases c:j=i
  ·subst c;exact⟨o',zo m,x⟩
  ·exact⟨p,by rw[zc (λe=>c e.symm)];exact k,r⟩
 ·by_cases c:j=i
  ·have:=(q (d j c y)).1
   rw[c];exact this
  ·exact C j c
 ·by_cases c:j=i
  ·have q:=(q (d j c y)).2
   subst c
   have t:Ob.tok (some o')=some s:=by
    have:=A
    simp only[ctx,zo m] at this
    exact this
   obtain⟨s0,f,n⟩:=q s t
   exact⟨s0,by simp only[ctx,hi];exact f,n⟩
  ·refine⟨s,?_,.inl ⟨rfl,B j c⟩⟩
   have:=A
   simp only[ctx,zc (λe=>c e.symm)] at this
   exact this
theorem HOk.turn(k:HOk B w g h)(hi:h[i]? =some o)(C:w.grownBy w' (o.blk g i))(A:∀j,j≠i->g'.β j=g.β j)(x:∀j,j≠i->g'.cur j=g.cur j)
  (E:∀b,o'.blk g' i=some b->o.blk g i=some b∨w.heap.size<=b) (F:Le (ctx w g h) (ctx w' g' (h.set i o'))) (D:o'.ok B w' (ctx w' g' (h.set i o')) i):HOk B w' g' (h.set i o'):=by
 have s:=vH hi
 have f:∀(j:Nat) (p:Ob),j≠i->p.blk g' j=p.blk g j:=λj p z=>Ko (A j z) (x j z)
 refine⟨λj p a=>?_,λu t p q b v a m c l=>?_⟩
 ·by_cases d:j=i
  ·subst d
   rw[zo s] at a
   injection a with a
   subst a
   exact D
  ·rw[zc (λe=>d e.symm)] at a
   refine Ob.ok_le (g:=g) (jla a) (k.ok j p a) F (x j d) rfl rfl λb y=>?_
   exact C.block b (k.lt a y).2 λe=>k.apart j i p o b d a hi y e.symm
 ·have key:∀(j:Nat) (p:Ob) (b:Nat),j≠i->h[j]? =some p->p.blk g j=some b->o'.blk g' i≠some b:=λj p b d a c e=>by
   rcases E b e with n|n
   ·exact k.apart j i p o b d a hi c n
   ·have:=(k.lt a c).2;omega
  by_cases n:u=i
  ·subst n
   have r:t≠u:=λe=>v e.symm
   rw[zo s] at a
   injection a with a
   subst a
   rw[zc (λe=>r e.symm)] at m
   rw[f t q r] at l
   exact key t q b r m l c
  ·rw[zc (λe=>n e.symm)] at a
   rw[f u p n] at c
   by_cases r:t=i
   ·subst r
    rw[zo s] at m
    injection m with m
    subst m
    exact key u p b n a c l
   ·rw[zc (λe=>r e.symm)] at m
    rw[f t q r] at l
    exact k.apart u t p q b v a m c l
theorem Kp{j:Nat}{p:Ob}(a:(h++[o])[j]? =some p):(j<h.length/\h[j]? =some p)∨(j=h.length/\p=o):=by
 rcases Nat.lt_or_ge j h.length with b|b
 ·rw[zH b] at a;exact .inl ⟨b,a⟩
 ·rw[zQ b] at a
  have c:j - h.length=0:=by
   rcases Nat.eq_zero_or_pos (j - h.length) with e|e
   ·exact e
   ·rw[qA (by simp;omega)] at a;cases a
  rw[c] at a
  injection a with a
  exact .inr ⟨by omega,a.symm⟩
theorem Le.more(t:Below w.heap.size w w')(l:∀j,j<h.length->g'.β j=g.β j)(n:∀j,j<h.length->g'.cur j=g.cur j)(x:∀b,o.blk g' h.length=some b->w.heap.size<=b):Le (ctx w g h) (ctx w' g' (h++[o])):=by
 have m:∀j,(ctx w g h).live j->j<h.length:=λj ⟨p,d,_⟩=>vH d
 refine⟨λa u q=>?_,by simp[ctx],λj ⟨p,d,i⟩=>⟨p,by rw[zH (vH d)];exact d,i⟩,λj c=>l j (m j c),λj c s v=>?_⟩
 ·obtain⟨r,k⟩:=q
  have f:=World.block_lt_of_cell? w a k
  refine⟨λ⟨j,p,d,e⟩=>?_,(World.cell?_of_block (w:=w) (t.block a.block f)).trans k⟩
  rcases Kp d with⟨c,d⟩|⟨rfl,rfl⟩
  ·exact r ⟨j,p,d,by rw[Ko (l j c) (n j c)] at e;exact e⟩
  ·have:=x _ e
   omega
 ·have c:=m j c
  refine⟨s,?_,.inl ⟨rfl,n j c⟩⟩
  have:=v
  simp only[ctx,zH c] at this
  exact this
theorem HOk.more(k:HOk B w g h)(C:Below w.heap.size w w')(y:∀j,j<h.length->g'.β j=g.β j)(u:∀j,j<h.length->g'.cur j=g.cur j)
  (l:∀b,o.blk g' h.length=some b->w.heap.size<=b) (D:Le (ctx w g h) (ctx w' g' (h++[o]))) (A:o.ok B w' (ctx w' g' (h++[o])) h.length):HOk B w' g' (h++[o]):=by
 have a:∀(j:Nat) (p:Ob),j<h.length->p.blk g' j=p.blk g j:=λj p n=>Ko (y j n) (u j n)
 refine⟨λj p f=>?_,λt r p q b i f v d c=>?_⟩
 ·rcases Kp f with⟨n,f⟩|⟨rfl,rfl⟩
  ·exact Ob.ok_le (g:=g) (jla f) (k.ok j p f) D (u j n) rfl rfl λb z=>C.block b (k.lt f z).2
  ·exact A
 ·rcases Kp f with⟨x,m⟩|⟨rfl,rfl⟩
  ·rw[a t p x] at d
   rcases Kp v with⟨s,e⟩|⟨rfl,rfl⟩
   ·rw[a r q s] at c
    exact k.apart t r p q b i m e d c
   ·have:=l b c
    have:=(k.lt m d).2
    omega
  ·rcases Kp v with⟨s,e⟩|⟨rfl,rfl⟩
   ·rw[a r q s] at c
    have:=l b d
    have:=(k.lt e c).2
    omega
   ·exact i rfl
def Kq(n:Nat):Ob->Bool
 | .box _ cs=>qz n cs
 | .row _ _ xs _=>qQ n xs
 | .mapo es=>es.all λx=>x.1.lt n && x.2.lt n
 | .raw _ _ ks _=>qz n ks
 | .gone | .res=>true
theorem Xz(n:Nat):∀(a b:List AV),qz n a=true->qz n b=true->qz n (a++b)=true
 | [],_,_,h=>h
 | x::a,b,h,k=>by
   have h:x.lt n=true/\qz n a=true:=by simpa [qz] using h
   simp[qz,h.1,Xz n a b h.2 k]
theorem Jm(n:Nat):∀(xs:List (List AV)),qQ n xs=true->qz n xs.flatten=true
 | [],_=>rfl
 | r::rs,h=>by
   have h:qz n r=true/\qQ n rs=true:=by simpa [qQ] using h
   exact Xz n r _ h.1 (Jm n rs h.2)
theorem xD(w:World)(g:Gh)(h L:List Ob):Less h.length (ctx w g (h++L)) (ctx w g h):=
 { rd:=λa u b=>⟨λ⟨j,p,d,f⟩=>b.1 ⟨j,p,by rw[zH (vH d)];exact d,f⟩,b.2⟩
   sz:=rfl
   live:=λi hi ⟨o,c,e⟩=>⟨o,by rw[zH hi] at c;exact c,e⟩
   β:=λ_ _=>rfl
   tok:=λi hi=>by show Ob.tok _=Ob.tok _;rw[zH hi]
   cur:=λ_ _=>rfl }
theorem MapRel.less{n:Nat}{c c':Ctx}(h:Less n c c'):∀(l:List (AV × AV)) (es:List MapEntry),(l.all λx=>x.1.lt n && x.2.lt n)=true->MapRel c l es->MapRel c' l es
 | [],_,_,e=>e
 | (a,b)::r,_,d,⟨e,q,g,f,i,j⟩=>by
   simp only[List.all_cons,zl] at d
   exact⟨e,q,g,AR.less h _ _ d.1.1 f,AR.less h _ _ d.1.2 i,MapRel.less h r q d.2 j⟩
theorem HOk.take{L:List Ob}(k:HOk B w g (h++L))(y:∀o∈h,Kq h.length o=true):HOk B w g h:=by
 have up:∀(j:Nat) (p:Ob),h[j]? =some p->(h++L)[j]? =some p:=λj p m=>by rw[zH (vH m)];exact m
 refine⟨λi o hi=>?_,λi j o p b r hi s=>k.apart i j o p b r (up i o hi) (up j p s)⟩
 have c:=k.ok i o (up i o hi)
 have a:=y o (qi hi)
 have q:=xD w g h L
 cases o with
 | box ty cs=>
   obtain⟨f,vs,d,n⟩:=c
   exact⟨f,vs,d,ARs.less q _ _ a n⟩
 | row ty e xs st=>
   obtain⟨f,t,cells,d,n⟩:=c
   exact⟨f,t,cells,d,ARs.less q _ _ (Jm _ _ a) n⟩
 | mapo l=>
   obtain⟨f,vs,k,l',d,m,n,u⟩:=c
   refine⟨f,vs,k,l',d,m,MapRel.less q _ _ ?_ n,u⟩
   have a:(l.all λx=>x.1.lt h.length && x.2.lt h.length)=true:=a
   rw[zR] at a⊢
   exact λx v=>a x (m.mem_iff.1 v)
 | raw l o ks us=>exact⟨c.1,c.2.1,ARs.less q _ _ a c.2.2⟩
 | gone=>trivial
 | res=>trivial
def Kr(φ:Nat->Ob)(i:Nat)(o:Ob):Ob:=if o.isRes then φ i else o
def fill(φ:Nat->Ob)(h:List Ob):List Ob:=h.mapIdx (Kr φ)
def Upto(φ:Nat->Ob)(n:Nat):Prop:=∀i,n<=i->φ i= .res
theorem Upto.mono{φ:Nat->Ob}{n m:Nat}(k:Upto φ n)(h:n<=m):Upto φ m:=λi hi=>k i (Nat.le_trans h hi)
variable {φ:Nat->Ob}
theorem q9:(fill φ h).length=h.length:=by simp[fill]
theorem wG:(fill φ h)[i]? =h[i]?.map (Kr φ i):=by simp[fill]
theorem qy(hi:h[i]? =some o)(a:o.isRes=false):(fill φ h)[i]? =some o:=by
 rw[wG,hi];simp[Kr,a]
theorem jc(c:o.isRes=false):fill φ (h.set i o)=(fill φ h).set i o:=by
 apply qP
 intro j
 rw[wG]
 by_cases a:i=j
 ·subst a
  by_cases b:i<h.length
  ·rw[zo b,zo (by rw[q9];exact b)];simp[Kr,c]
  ·rw[qA (by simp;omega),qA (by simp[q9];omega)];rfl
 ·rw[zc a,zc a,wG]
theorem jC{L:List Ob}(b:Upto φ h.length):fill φ (h++L)=fill φ h++L:=by
 apply qP
 intro j
 rw[wG]
 by_cases a:j<h.length
 ·rw[zH a,zH (by rw[q9];exact a),wG]
 ·rw[zQ (by omega),zQ (by rw[q9];omega),q9]
  cases d:L[j - h.length]? with
  | none=>rfl
  | some o=>
    simp only[Option.map_some,Kr]
    split
    ·rename_i c
     rw[b j (by omega)]
     cases o<;>first|rfl|cases c
    ·rfl
theorem qoa:fill (λ_=> .res) h=h:=by
 apply qP
 intro j
 rw[wG]
 cases h[j]? with
 | none=>rfl
 | some o=>simp only[Option.map_some,Kr];cases o<;>rfl
def ResK(h h':List Ob):Prop:=∀i:Nat,h[i]? =some Ob.res->h'[i]? =some Ob.res
theorem ResK.refl:ResK h h:=λ_ k=>k
theorem ResK.trans{h'':List Ob}(a:ResK h h')(b:ResK h' h''):ResK h h'':=λi k=>b i (a i k)
theorem qj(hi:h[i]? =some o)(b:o.isRes=false):ResK h (h.set i o'):=λj a=>by
 by_cases e:i=j
 ·subst e;rw[hi] at a;injection a with a;subst a;cases b
 ·rw[zc e];exact a
theorem qS{L:List Ob}:ResK h (h++L):=λj a=>by
 rw[zH (zd.1 a).1];exact a
end
inductive K where
 | int (k:IntKind)|bool|str|slice (e:TypeId)|struct (fs:List (Nat × TypeId))|arr (n:Nat) (e:TypeId)|ptr (e:TypeId)|mapk (k e:TypeId)|other
structure Ty where
 ok:Bool
 agg:Bool
 sz:Nat
 bytes:Nat
 zero:Option (List Value)
 one:Bool
 kind:K
def w9a:TypeDesc->Bool
 | .struct _ | .array _ _=>true
 | _=>false
def kOf:TypeDesc->K
 | .int k=> .int k
 | .bool=> .bool
 | .string=> .str
 | .slice e=> .slice e
 | .struct a=> .struct (a.toList.map λf=>(f.offset,f.type))
 | .array n e=> .arr n e
 | .pointer e=> .ptr e
 | .map k e=> .mapk k e
 | _=> .other
def WGa:Option Value->Bool
 | some v=>v.oneCell'
 | none=>false
def zO(P:Program)(t:TypeId):Ty:=
 match P.underlying t,P.info? t with
 | some d,some i=>⟨true,w9a d,i.size,i.bytes,i.zero.map λv=>v.cells.toList,WGa i.zero,kOf d⟩
 | _,_=>⟨false,false,0,0,none,false,.other⟩
theorem jt{P:Program}{t:TypeId}(h:(zO P t).ok=true):∃d i,P.underlying t=some d/\P.info? t=some i/\zO P t=⟨true,w9a d,i.size,i.bytes,i.zero.map λv=>v.cells.toList,WGa i.zero,kOf d⟩:=by
 cases a:P.underlying t with
 | none=>rw[zO,a] at h;exact absurd h (by simp)
 | some d=>
   cases hi:P.info? t with
   | none=>rw[zO,a,hi] at h;exact absurd h (by simp)
   | some i=>exact⟨d,i,rfl,rfl,by rw[zO,a,hi]⟩
def nth:List AV->Nat->AV
 | [],_=> .bad
 | a::_,0=>a
 | _::r,n+1=>nth r n
def cut:List AV->Nat->Nat->Option (List AV)
 | _,0,0=>some []
 | [],_,_=>none
 | a::r,0,n+1=>(cut r 0 n).map (a:: ·)
 | _::r,k+1,n=>cut r k n
def lay:List AV->Nat->List AV->Option (List AV)
 | cs,0,[]=>some cs
 | [],_,_=>none
 | _::r,0,v::vs=>(lay r 0 vs).map (v:: ·)
 | a::r,k+1,vs=>(lay r k vs).map (a:: ·)
def ofV:Value->AV
 | .agg cs=> .ag (cs.toList.map .v)
 | x=> .v x
def ev(T:Nat->AV):Operand->AV
 | .tmp i=>T i
 | .const x=>ofV x
 | .func f=> .fn (.func f) [] []
 | .global _=> .bad
def AV.one:AV->Bool
 | .v x=>x.oneCell'
 | .ag _ | .tup _ | .bad=>false
 | _=>true
def AV.cells:AV->Option (List AV)
 | .ag cs=>if cs.all AV.one then some cs else none
 | .tup _ | .bad=>none
 | .v x=>if x.oneCell' then some [.v x] else none
 | a=>some [a]
def part(cs:List AV)(k:Nat)(agg:Bool)(n:Nat):Option AV:=
 if agg then(cut cs k n).map .ag else if k<cs.length then some (nth cs k) else none
def eOf(h:List Ob):AV->Option Nat
 | .sl e _=>some e
 | .tl id _=>match h[id]? with
   | some (.row _ e _ _)=>some e
   | _=>none
 | .vw a e _ _=>(eOf h a).bind λb=>if b=e then some e else none
 | _=>none
def z6(h:List Ob):AV->Option (List (List AV))
 | .sl _ xs=>some xs
 | .tl id st=>match h[id]? with
   | some (.row _ _ xs s)=>if s=st then some xs else none
   | _=>none
 | .vw a e i n=>(z6 h a).bind λxs=>if i+n<=xs.length/\(n=0∨eOf h a=some e) then some ((xs.drop i).take n) else none
 | .v (.slice none 0 _)=>some []
 | .em=>some []
 | _=>none
section
variable {c:Ctx}
theorem vB:∀ {aZ:List AV} {vs:List Value},ARs c aZ vs->aZ.length=vs.length
 | [],vs,e=>by have e:vs=[]:=e;rw[e];rfl
 | a::aZ,vs,⟨v,r,d,_,b⟩=>by rw[d];simp[vB b]
theorem wg:∀ {aZ:List AV} {vs:List Value},ARs c aZ vs->∀i,i<aZ.length->∃u,vs[i]? =some u/\AR c (nth aZ i) u
 | a::aZ,vs,⟨v,r,b,d,e⟩,0,_=>⟨v,by rw[b];rfl,d⟩
 | a::aZ,vs,⟨v,r,b,d,e⟩,i+1,hi=>by
   obtain⟨u,g,f⟩:=wg e i (by simpa using hi)
   exact⟨u,by rw[b];exact g,f⟩
theorem J6:∀ {aZ:List AV} {i:Nat} {a:AV},aZ[i]? =some a->nth aZ i=a
 | [],_,_,h=>by cases h
 | x::aZ,0,a,h=>by injection h
 | x::aZ,i+1,a,h=>J6 (aZ:=aZ) (i:=i) h
theorem ZS:∀ {aZ:List AV} {i:Nat},i<aZ.length->aZ[i]? =some (nth aZ i)
 | x::aZ,0,_=>rfl
 | x::aZ,i+1,h=>ZS (aZ:=aZ) (i:=i) (by simpa using h)
theorem Jn:∀(vs:List Value),ARs c (vs.map .v) vs
 | []=>rfl
 | v::r=>⟨v,r,rfl,rfl,Jn r⟩
theorem xj:∀ {aZ b:List AV} {us vs:List Value},ARs c aZ us->ARs c b vs->ARs c (aZ++b) (us++vs)
 | [],b,us,vs,e,h=>by have e:us=[]:=e;subst e;exact h
 | a::aZ,b,us,vs,⟨u,r,g,f,d⟩,h=>by subst g;exact⟨u,r++vs,rfl,f,xj d h⟩
theorem W6(x:Value):AR c (ofV x) x:=by
 unfold ofV
 split
 ·exact⟨_,rfl,Jn _⟩
 ·rfl
theorem jma:∀ {aZ:List AV} {vs:List Value},ARs c aZ vs->∀(k n:Nat) {rs:List AV},cut aZ k n=some rs->ARs c rs ((vs.drop k).take n)/\k+n<=vs.length/\rs.length=n
 | [],vs,e,0,0,rs,h=>by have e:vs=[]:=e;cases h;rw[e];exact⟨rfl,zn _,rfl⟩
 | [],_,_,k+1,n,rs,h=>by cases h
 | [],_,_,0,n+1,rs,h=>by cases h
 | a::aZ,vs,_,0,0,rs,h=>by cases h;simp[ARs]
 | a::aZ,vs,⟨u,r,d,j,g⟩,0,n+1,rs,h=>by
   unfold cut at h
   cases i:cut aZ 0 n with
   | none=>rw[i] at h;cases h
   | some q=>
     rw[i] at h
     injection h with h
     subst h
     subst d
     obtain⟨f,l,b⟩:=jma g 0 n i
     exact⟨⟨u,_,rfl,j,f⟩,by simp;omega,by simp[b]⟩
 | a::aZ,vs,⟨u,r,d,j,g⟩,k+1,n,rs,h=>by
   unfold cut at h
   subst d
   obtain⟨f,l,b⟩:=jma g k n h
   exact⟨f,by simp;omega,b⟩
theorem Ks:∀ {aZ:List AV} {vs:List Value},ARs c aZ vs->∀(k:Nat) {ns rs:List AV} {us:List Value},ARs c ns us->lay aZ k ns=some rs->ARs c rs (vs.take k++us++vs.drop (k+us.length))/\k+us.length<=vs.length
 | aZ,vs,h,0,[],rs,us,b,e=>by
   have b:us=[]:=b
   subst b
   have:lay aZ 0 []=some aZ:=by cases aZ<;>rfl
   rw[this] at e
   cases e
   exact⟨by simpa using h,by simp⟩
 | [],vs,e,k+1,ns,rs,us,b,h=>by cases h
 | [],vs,e,0,n::ns,rs,us,b,h=>by cases h
 | a::aZ,vs,⟨u,r,f,m,j⟩,0,n::ns,rs,us,⟨x,s,p,l,g⟩,h=>by
   unfold lay at h
   cases d:lay aZ 0 ns with
   | none=>rw[d] at h;cases h
   | some q=>
     rw[d] at h
     injection h with h
     subst h
     subst f
     subst p
     obtain⟨i,o⟩:=Ks j 0 g d
     exact⟨⟨x,_,rfl,l,by simpa using i⟩,by simp;omega⟩
 | a::aZ,vs,⟨u,r,f,m,j⟩,k+1,ns,rs,us,b,h=>by
   unfold lay at h
   cases d:lay aZ k ns with
   | none=>rw[d] at h;cases h
   | some q=>
     rw[d] at h
     injection h with h
     subst h
     subst f
     obtain⟨i,o⟩:=Ks j k b d
     refine⟨⟨u,_,rfl,m,?_⟩,by simp;omega⟩
     rw[show k+1+us.length=(k+us.length)+1 by omega]
     exact i
theorem WM:∀ {aZ:List AV} {k:Nat} {ns rs:List AV},lay aZ k ns=some rs->rs.length=aZ.length
 | aZ,0,[],rs,h=>by
   have:lay aZ 0 []=some aZ:=by cases aZ<;>rfl
   rw[this] at h;cases h;rfl
 | [],k+1,ns,rs,h=>by cases h
 | [],0,n::ns,rs,h=>by cases h
 | a::aZ,0,n::ns,rs,h=>by
   unfold lay at h
   cases b:lay aZ 0 ns with
   | none=>rw[b] at h;cases h
   | some q=>rw[b] at h;injection h with h;subst h;simp[WM b]
 | a::aZ,k+1,ns,rs,h=>by
   unfold lay at h
   cases b:lay aZ k ns with
   | none=>rw[b] at h;cases h
   | some q=>rw[b] at h;injection h with h;subst h;simp[WM b]
theorem xfa:∀ {a:AV} {u:Value},a.one=true->AR c a u->u.oneCell'=true/\u.cells= #[u]
 | .v x,u,h,e=>by
   have e:u=x:=e
   subst e
   refine⟨h,?_⟩
   cases u<;>first|rfl|cases h
 | .sl _ _,u,_,⟨A,k,e,_⟩=>by subst e;exact⟨rfl,rfl⟩
 | .ptr _ _,u,_,⟨_,e⟩=>by subst e;exact⟨rfl,rfl⟩
 | .mp _,u,_,⟨_,e⟩=>by subst e;exact⟨rfl,rfl⟩
 | .ep _ _ _ _,u,_,⟨A,m,b,_,_,e⟩=>by subst e;exact⟨rfl,rfl⟩
 | .em,u,_,⟨A,k,e⟩=>by subst e;exact⟨rfl,rfl⟩
 | .vw _ _ _ _,u,_,⟨A,m,b,d,k,_,_,_,e,_⟩=>by subst e;exact⟨rfl,rfl⟩
 | .fn _ _ _,u,_,⟨us,vs,e,_⟩=>by subst e;exact⟨rfl,rfl⟩
 | .tl id st,u,_,⟨⟨A,n,k,e⟩,_⟩=>by subst e;exact⟨rfl,rfl⟩
theorem Vl:∀ {aZ:List AV} {vs:List Value},aZ.all AV.one=true->ARs c aZ vs->∀v∈vs,v.oneCell'=true
 | [],vs,_,e,v,b=>by have e:vs=[]:=e;rw[e] at b;cases b
 | a::aZ,vs,h,⟨u,r,g,f,d⟩,v,b=>by
   rw[List.all_cons,zl] at h
   subst g
   rcases zE.1 b with rfl|b
   ·exact(xfa h.1 f).1
   ·exact Vl h.2 d v b
theorem W7{a:AV}{u:Value}{cs:List AV}(h:a.cells=some cs)(j:AR c a u):ARs c cs u.cells.toList/\(∀v∈u.cells.toList,v.oneCell'=true):=by
 have key:a.one=true->cs=[a]->ARs c cs u.cells.toList/\(∀v∈u.cells.toList,v.oneCell'=true):=λd m=>by
  obtain⟨l,g⟩:=xfa d j
  rw[m,g]
  exact⟨⟨u,[],rfl,j,rfl⟩,by simpa using l⟩
 cases a with
 | v x=>
   simp only[AV.cells] at h
   split at h
   ·rename_i d;injection h with h;exact key d h.symm
   ·cases h
 | sl e xs=>injection h with h;exact key rfl h.symm
 | tl i s=>injection h with h;exact key rfl h.symm
 | ptr i o=>injection h with h;exact key rfl h.symm
 | em=>injection h with h;exact key rfl h.symm
 | vw a e i k=>injection h with h;exact key rfl h.symm
 | ep a e i k=>injection h with h;exact key rfl h.symm
 | mp i=>injection h with h;exact key rfl h.symm
 | fn f a b=>injection h with h;exact key rfl h.symm
 | ag aZ=>
   simp only[AV.cells] at h
   split at h
   ·rename_i d
    injection h with h
    subst h
    obtain⟨vs,l,g⟩:=j
    subst l
    exact⟨g,Vl d g⟩
   ·cases h
 | tup _=>cases h
 | bad=>cases h
theorem jna(A:Option Addr)(e:Nat):∀(xs:List (List AV)) (a i:Nat) (r:List AV),ARows c A e a xs->xs[i]? =some r->r.length=e/\ACells c A ((a+i)*e) r
 | r::rs,a,0,_,⟨d,_⟩,h=>by injection h with h;subst h;exact d
 | r::rs,a,i+1,q,⟨_,b⟩,hi=>by
   have:=jna A e rs (a+1) i q b hi
   rw[show a+1+i=a+(i+1) by omega] at this
   exact this
theorem xga(A:Option Addr):∀(aZ:List AV) (k0 k:Nat) (a:AV),ACells c A k0 aZ->aZ[k]? =some a->∃b u,A=some b/\c.rd (b.add (k0+k)) u/\AR c a u
 | a::aZ,k0,0,_,⟨e,_⟩,h=>by injection h with h;subst h;exact e
 | a::aZ,k0,k+1,q,⟨_,d⟩,f=>by
   have:=xga A aZ (k0+1) k q d f
   rw[show k0+1+k=k0+(k+1) by omega] at this
   exact this
theorem ZT{α:Type}{e:Nat}:∀ {xs:List (List α)},(∀x∈xs,x.length=e)->∀ {i k:Nat} {r:List α} {a:α},xs[i]? =some r->r[k]? =some a->xs.flatten[i*e+k]? =some a
 | x::xs,h,0,k,r,a,hi,b=>by
   injection hi with hi
   subst hi
   rw[List.flatten_cons,zH (by have:=(zd.1 b).1;omega)]
   simpa using b
 | x::xs,h,i+1,k,r,a,hi,b=>by
   have c:x.length=e:=h x (by simp)
   have:=ZT (xs:=xs) (λy d=>h y (by simp[d])) (i:=i) hi b
   rw[List.flatten_cons,zQ (by rw[c,Nat.succ_mul];omega),c]
   rw[show(i+1)*e+k - e=i*e+k by rw[Nat.succ_mul];omega]
   exact this
theorem vI{α:Type}{e:Nat}:∀ {xs:List (List α)},(∀x∈xs,x.length=e)->xs.flatten.length=xs.length*e
 | [],_=>by simp
 | x::xs,h=>by
   rw[List.flatten_cons,ze,vI (λy a=>h y (by simp[a])),h x (by simp),List.length_cons,Nat.succ_mul]
   omega
end
structure RowsAt (w:World) (c:Ctx) (e:Nat) (xs:List (List AV)) (A:Option Addr):Prop where
 len:∀r∈xs,r.length=e
 cell:∀(i k:Nat) (r:List AV) (a:AV),xs[i]? =some r->r[k]? =some a->∃ad u,A=some ad/\w.cell? (ad.add (i*e+k))=some u/\AR c a u
section
variable {B:Nat} {w:World} {g:Gh} {h:List Ob}
theorem Jo{id st:Nat}{u:Value}(a:AR (ctx w g h) (.tl id st) u){ty e:Nat}{xs:List (List AV)}(b:h[id]? =some (.row ty e xs st)):u=g.cur id:=
 (a.2.2 st (by simp[ctx,b,Ob.tok])).2 rfl
theorem w8{D:Nat}{e:TypeId}{size:Nat}{v:Value}{k:Nat}{xs:List Value}(h:w.ownsRow D e size v k xs):∃A a,v= .slice A k a/\k<=a:=by
 rcases h.2 with⟨d,c⟩|⟨g,cap,cur,b,_,_,f,_⟩
 ·subst c;exact⟨none,0,d,zn _⟩
 ·exact⟨_,cap,b,f⟩
theorem wu(U:HOk B w g h):∀(a:AV) {u:Value} {xs:List (List AV)},AR (ctx w g h) a u->z6 h a=some xs->
  ∃A k,u= .slice A xs.length k/\xs.length<=k/\(∀e,eOf h a=some e->RowsAt w (ctx w g h) e xs A)/\(eOf h a=none->xs=[])
 | .sl e ys,u,xs,o,b=>by
   injection b with b
   subst b
   obtain⟨A,k,t,z,y⟩:=o
   refine⟨A,k,t,z,λS c=>?_,λc=>by cases c⟩
   injection c with c
   subst c
   refine⟨λr b=>?_,λi k r a hi E=>?_⟩
   ·obtain⟨i,hi,l⟩:=List.mem_iff_getElem.1 b
    exact(jna A e _ 0 i r y (by rw[zi hi,l])).1
   ·have:=jna A e _ 0 i r y hi
    obtain⟨V,u,l,F,G⟩:=xga A r _ k a this.2 E
    rw[Nat.zero_add] at F
    exact⟨V,u,l,F.2,G⟩
 | .tl id st,u,xs,o,b=>by
   simp only[z6] at b
   split at b
   ·rename_i ty e ys s J
    split at b
    ·rename_i hs
     injection b with b
     subst hs
     subst b
     have hc:=Jo o J
     obtain⟨h0,t,cells,z,y⟩:=U.ok id _ J
     obtain⟨A,I,l,F⟩:=w8 z
     refine⟨A,I,hc.trans l,F,λS c=>?_,λc=>by simp[eOf,J] at c⟩
     simp only[eOf,J,Option.some.injEq] at c
     subst c
     refine⟨t,λi k r a hi E=>?_⟩
     have T:=ZT t hi E
     obtain⟨u,Q,D⟩:=wg y _ (zd.1 T).1
     rw[J6 T] at D
     rcases z.2 with⟨G,R⟩|⟨Y,cap,cur,hv,_⟩
     ·have:=(zd.1 hi).1
      omega
     ·have W:A=some ⟨Y,0,none⟩:=by
       have q:g.cur id= .slice A ys.length I:=l
       have C:g.cur id=_:=hv
       rw[q] at C
       injection C
      refine⟨_,u,W,?_,D⟩
      have q:g.cur id= .slice A ys.length I:=l
      exact World.ownsRow.cells z (g:=Y) (by show(g.cur id).ownBlock=_;rw[q,W];rfl) _ u Q
    ·cases b
   ·cases b
 | .vw a e i n,u,xs,o,b=>by
   have ih:= @wu U a
   obtain⟨A,m,I,A',k,t,z,y,h4,Z,_⟩:=o
   simp only[z6] at b
   cases p:z6 h a with
   | none=>rw[p] at b;cases b
   | some ys=>
     rw[p] at b
     simp only[Option.bind_some] at b
     split at b
     ·rename_i M
      injection b with b
      subst b
      obtain⟨A0,k0,l,F,G,R⟩:=ih t p
      injection l with e5 e6 e7
      subst e5 e6 e7
      have f:((ys.drop i).take n).length=n:=by simp;omega
      refine⟨A',k,by rw[f];exact h4,by rw[f];exact y,λS c=>?_,λc=>?_⟩
      ·simp only[eOf] at c
       cases d:eOf h a with
       | none=>rw[d] at c;cases c
       | some H=>
         rw[d] at c
         simp only[Option.bind_some] at c
         split at c
         ·rename_i L
          injection c with c
          subst L c
          have X:=G _ d
          refine⟨λr b=>X.len r (List.mem_of_mem_drop (List.mem_of_mem_take b)),λj k r a O E=>?_⟩
          have K:j<n:=by
           have:=(zd.1 O).1
           rw[f] at this;exact this
          rw[jr,if_pos K,List.getElem?_drop] at O
          obtain⟨V,u,z1,z2,z3⟩:=X.cell (i+j) k r a O E
          obtain⟨ι,z4,z5⟩:=Z (by omega)
          rw[z1] at z4
          injection z4 with z4
          subst z4
          refine⟨_,u,z5,?_,z3⟩
          rw[Addr.add_add,show i*H+(j*H+k)=(i+j)*H+k by rw[Nat.add_mul];omega]
          exact z2
         ·cases c
      ·simp only[eOf] at c
       cases N:(ys.drop i).take n with
       | nil=>rfl
       | cons r rs=>
         exfalso
         have b:r∈ys:=List.mem_of_mem_drop (List.mem_of_mem_take (by rw[N];simp:r∈(ys.drop i).take n))
         cases d:eOf h a with
         | none=>rw[R d] at b;cases b
         | some H=>
           rw[d] at c
           simp only[Option.bind_some] at c
           split at c
           ·cases c
           ·rename_i P
            rcases M.2 with h0|h0
            ·rw[h0] at N;simp at N
            ·rw[d] at h0;injection h0 with h0;exact P h0
     ·cases b
 | .v x,u,xs,o,b=>by
   have o:u=x:=o
   subst o
   unfold z6 at b
   split at b
   ·rename_i heq;cases heq
   ·rename_i heq;cases heq
   ·rename_i heq;cases heq
   ·rename_i k heq
    injection b with b
    subst b
    injection heq with heq
    exact⟨none,k,heq,Nat.zero_le _,λe c=>by simp[eOf] at c,λ_=>rfl⟩
   ·rename_i heq;cases heq
   ·cases b
 | .em,u,xs,⟨A,k,e⟩,b=>by
   injection b with b
   subst b
   exact⟨_,k,e,Nat.zero_le _,λe c=>by simp[eOf] at c,λ_=>rfl⟩
 | .ptr _ _,_,_,_,b | .ep _ _ _ _,_,_,_,b | .mp _,_,_,_,b | .ag _,_,_,_,b | .tup _,_,_,_,b | .fn _ _ _,_,_,_,b | .bad,_,_,_,b=>by cases b
end
structure Good (B:Nat) (w:World) (g:Gh) (h:List Ob) (w':World) (g':Gh) (h':List Ob):Prop where
 ok:HOk B w' g' h'
 le:Le (ctx w g h) (ctx w' g' h')
 below:Below B w w'
 size:B<=w'.heap.size
section
variable {B:Nat} {w w' w'':World} {g g' g'':Gh} {h h' h'':List Ob} {P:Program}
theorem Good.refl(a:HOk B w g h)(hB:B<=w.heap.size):Good B w g h w g h:=⟨a,Le.refl _,Below.refl _ _,hB⟩
theorem Good.trans(a:Good B w g h w' g' h')(b:Good B w' g' h' w'' g'' h''):Good B w g h w'' g'' h'':=
 ⟨b.ok,a.le.trans b.le,a.below.trans b.below,b.size⟩
theorem Good.drew(b:HOk B w g h)(hB:B<=w.heap.size):Good B w g h w.drew g h:=
 have a:∀D,Below D w w.drew:=λ_=>⟨rfl,rfl,rfl,zn _,λ_ _=>rfl⟩
 ⟨b.ext (a _),Le.ext (a _),a _,hB⟩
def PartAt(w:World)(c:Ctx)(b:Addr)(cs:List AV):Prop:=∀(k:Nat) (a:AV),cs[k]? =some a->∃u,w.cell? (b.add k)=some u/\AR c a u
theorem joa:∀ {aZ:List AV} {k n:Nat} {rs:List AV},cut aZ k n=some rs->∀j,j<n->aZ[k+j]? =rs[j]? /\j<rs.length
 | _,0,0,_,_,j,b=>by omega
 | [],k+1,n,rs,h,_,_=>by cases h
 | [],0,n+1,rs,h,_,_=>by cases h
 | a::aZ,0,n+1,rs,h,j,b=>by
   unfold cut at h
   cases c:cut aZ 0 n with
   | none=>rw[c] at h;cases h
   | some q=>
     rw[c] at h
     injection h with h
     subst h
     cases j with
     | zero=>simp
     | succ j=>
       have:=joa c j (by omega)
       simp only[Nat.zero_add,List.getElem?_cons_succ,List.length_cons] at this⊢
       exact⟨this.1,by omega⟩
 | a::aZ,k+1,n,rs,h,j,b=>by
   unfold cut at h
   have:=joa h j b
   rw[show k+1+j=(k+j)+1 by omega,List.getElem?_cons_succ]
   exact this
theorem WN:∀ {aZ:List AV} {k n:Nat} {rs:List AV},cut aZ k n=some rs->rs.length=n
 | aZ,0,0,_,h=>by
   have:cut aZ 0 0=some []:=by cases aZ<;>rfl
   rw[this] at h;cases h;rfl
 | [],k+1,n,rs,h=>by cases h
 | [],0,n+1,rs,h=>by cases h
 | a::aZ,0,n+1,rs,h=>by
   unfold cut at h
   cases b:cut aZ 0 n with
   | none=>rw[b] at h;cases h
   | some q=>rw[b] at h;injection h with h;subst h;simp[WN b]
 | a::aZ,k+1,n,rs,h=>by unfold cut at h;exact WN h
theorem voa{c:Ctx}:∀ {aZ:List AV} {vs:List Value},aZ.length=vs.length->(∀(k:Nat) (a:AV),aZ[k]? =some a->∃u:Value,vs[k]? =some u/\AR c a u)->ARs c aZ vs
 | [],[],_,_=>rfl
 | [],_::_,h,_=>by cases h
 | _::_,[],h,_=>by cases h
 | a::aZ,v::vs,g,h=>by
   obtain⟨u,d,e⟩:=h 0 a rfl
   injection d with d
   subst d
   exact⟨_,_,rfl,e,voa (by simpa using g) λk b f=>h (k+1) b f⟩
theorem PartAt.vals{c:Ctx}{g:Addr}:∀ {cs:List AV},PartAt w c g cs->∃vs:List Value,ARs c cs vs/\∀(j:Nat) (u:Value),vs[j]? =some u->w.cell? (g.add j)=some u:=by
 intro cs n
 have:∀k,∃u,k<cs.length->(w.cell? (g.add k)=some u/\AR c (nth cs k) u):=λk=>by
  by_cases d:k<cs.length
  ·obtain⟨u,m,l⟩:=n k _ (ZS d);exact⟨u,λ_=>⟨m,l⟩⟩
  ·exact⟨undef,λh=>absurd h d⟩
 obtain⟨f,i⟩:=Classical.axiomOfChoice this
 refine⟨(List.range cs.length).map f,voa (by simp) λk a d=>?_,λj u e=>?_⟩
 ·have b:=(zd.1 d).1
  refine⟨f k,by simp[b],?_⟩
  have:=(i k b).2
  rw[J6 d] at this
  exact this
 ·by_cases b:j<cs.length
  ·simp[b] at e
   subst e
   exact(i j b).1
  ·have:j<((List.range cs.length).map f).length:=(zd.1 e).1
   simp at this
   omega
theorem Vm{c:Ctx}{t:TypeId}(C:(zO P t).ok=true){p:Addr}{cs:List AV}(z:PartAt w c p cs){k:Nat}{x:AV}(b:part cs k (zO P t).agg (zO P t).sz=some x):
  ∃v,(loadVar t (p.add k)).run P w= .ok v w/\AR c x v:=by
 obtain⟨d,i,A,hi,e⟩:=jt C
 rw[e] at b
 simp only[part] at b
 have o:∀n rs,cut cs k n=some rs->PartAt w c (p.add k) rs:=λn rs g j a y=>by
  have r:=WN g
  have B:=(zd.1 y).1
  have:=joa g j (by omega)
  obtain⟨u,h,l⟩:=z (k+j) a (this.1.trans y)
  exact⟨u,by rw[Addr.add_add];exact h,l⟩
 have f:(isAgg t).run P w= .ok (w9a d) w:=by
  simp only[isAgg,Sem.run_bind,run_underlying A,Result.andThen_ok]
  cases d<;>rfl
 have q:(sizeOf t).run P w= .ok i.size w:=by simp[sizeOf,typeInfo,hi]
 split at b
 ·rename_i s
  cases g:cut cs k i.size with
  | none=>rw[g] at b;cases b
  | some rs=>
    rw[g] at b
    injection b with b
    subst b
    obtain⟨vs,h,l⟩:=(o _ _ g).vals
    have m:vs.length=i.size:=by rw[<-vB h,WN g]
    have r:=run_loadCells_list (P:=P) w (p.add k) vs l
    rw[m] at r
    refine⟨.agg vs.toArray,?_,vs.toArray,rfl,by simpa using h⟩
    simp only[loadVar,Sem.run_bind,f,Result.andThen_ok,s,if_true,q,r,Sem.run_pure]
 ·rename_i s
  split at b
  ·rename_i D
   injection b with b
   subst b
   obtain⟨u,h,l⟩:=z k _ (ZS D)
   refine⟨u,?_,l⟩
   simp only[loadVar,Sem.run_bind,f,Result.andThen_ok,s,if_false,Bool.false_eq_true,run_load,h]
  ·cases b
theorem W8(l:HOk B w g h){id:Nat}{ty:TypeId}{cs:List AV}(j:h[id]? =some (.box ty cs)):PartAt w (ctx w g h) ⟨g.β id,0,none⟩ cs:=λk a d=>by
 obtain⟨m,vs,e,i⟩:=l.ok id _ j
 obtain⟨u,f,c⟩:=wg i k (zd.1 d).1
 rw[J6 d] at c
 refine⟨u,?_,c⟩
 have b:w.heap[g.β id]? =some (.cells vs ty (0,0)):=e
 rw[Addr.add_lit]
 simp only[World.cell?,b,Nat.zero_add]
 simpa using f
theorem Jp(w:World)(b:Nat)(vs:Array Value):w.grownBy (w.setRow b vs) (some b):=
 ⟨rfl,rfl,rfl,by simp,λk _ a=>setRow_other w b k vs λe=>a (by rw[e])⟩
theorem W9(j:HOk B w g h)(hB:B<=w.heap.size){id:Nat}{ty:TypeId}{cs cs':List AV}(d:h[id]? =some (.box ty cs)){vs':Array Value}(n:ARs (ctx w g h) cs' vs'.toList):
  Good B w g h (w.setRow (g.β id) vs') g (h.set id (.box ty cs')):=by
 have a:=Jp w (g.β id) vs'
 have e:=Le.turn (g':=g) (o':= .box ty cs') d rfl a (λ_ _=>rfl) (λ_ _=>rfl) (λb c=> .inl c) (λ_=>⟨rfl,λs m=>by cases m⟩)
 obtain⟨i,vs,l,o⟩:=j.ok id _ d
 refine⟨j.turn d a (λ_ _=>rfl) (λ_ _=>rfl) (λb c=> .inl c) e ⟨i,vs',setRow_heap w _ vs vs' ty (0,0) l,ARs.le e _ _ n⟩,e,?_,by simpa using hB⟩
 exact(Below.refl B w).grown a hB λk f=>by injection f with f;subst f;exact i
theorem Qa(t:HOk B w g h)(hB:B<=w.heap.size){id:Nat}{ty e:Nat}{xs xs':List (List AV)}{st:Nat}(n:h[id]? =some (.row ty e xs st))(z:∀x∈xs',x.length=e){v':Value}{cells:List Value}{st':Nat}
  (i:w.grownBy w' (g.cur id).ownBlock) (c:w'.ownsRow B ty e v' xs'.length cells) (v:ARs (ctx w g h) xs'.flatten cells) (o:st'=st/\v'=g.cur id∨st<st') (p:∀b,v'.ownBlock=some b->(g.cur id).ownBlock=some b∨w.heap.size<=b):
  Good B w g h w' ⟨g.β,λj=>if j=id then v' else g.cur j⟩ (h.set id (.row ty e xs' st')):=by
 have r:∀j,j≠id->(if j=id then v' else g.cur j)=g.cur j:=λj A=>if_neg A
 have a:∀b,(Ob.row ty e xs' st').blk ⟨g.β,λj=>if j=id then v' else g.cur j⟩ id=some b->(Ob.row ty e xs st).blk g id=some b∨w.heap.size<=b:=λb u=>by
  simp only[Ob.blk,if_true] at u;exact p b u
 have q:=Le.turn (g':=⟨g.β,λj=>if j=id then v' else g.cur j⟩) (o':= .row ty e xs' st') n rfl i (λ_ _=>rfl) r a (λ_=>⟨rfl,λs l=>by
  injection l with l
  subst l
  refine⟨st,rfl,?_⟩
  rcases o with⟨f,m⟩|f
  ·exact .inl ⟨f,by simp[m]⟩
  ·exact .inr f⟩)
 obtain⟨h0,f,d,m,C⟩:=t.ok id _ n
 refine⟨t.turn n i (λ_ _=>rfl) r a q ⟨h0,z,cells,?_,ARs.le q _ _ v⟩,q,?_,Nat.le_trans hB i.size⟩
 ·simp only[ctx,if_true];exact c
 ·exact(Below.refl B w).grown i hB λk y=>(World.ownsRow.lt m k y).1
theorem QSa(i:HOk B w g h)(hB:B<=w.heap.size){ty:TypeId}{cs:List AV}{vs:Array Value}(k:ARs (ctx w g h) cs vs.toList):
  Good B w g h (w.alloc (.cells vs ty)) ⟨λj=>if j=h.length then w.heap.size else g.β j,g.cur⟩ (h++[.box ty cs])/\AR (ctx (w.alloc (.cells vs ty)) ⟨λj=>if j=h.length then w.heap.size else g.β j,g.cur⟩ (h++[.box ty cs])) (.ptr h.length 0) (.pointer (some ⟨w.heap.size,0,none⟩)):=by
 have a:∀D,D<=w.heap.size->Below D w (w.alloc (.cells vs ty)):=λD f=>(Below.refl D w).alloc f _
 have d:∀j,j<h.length->(if j=h.length then w.heap.size else g.β j)=g.β j:=λj l=>if_neg (by omega)
 have e:∀b,(Ob.box ty cs).blk ⟨λj=>if j=h.length then w.heap.size else g.β j,g.cur⟩ h.length=some b->w.heap.size<=b:=λb a=>by
  simp[Ob.blk] at a;omega
 have c:=Le.more (g:=g) (g':=⟨λj=>if j=h.length then w.heap.size else g.β j,g.cur⟩) (o:= .box ty cs) (a _ (zn _)) d (λ_ _=>rfl) e
 refine⟨⟨i.more (a _ (zn _)) d (λ_ _=>rfl) e c ⟨by simp[ctx];exact hB,vs,?_,ARs.le c _ _ k⟩,c,a _ hB,by simp;omega⟩,⟨.box ty cs,by simp,rfl⟩,by simp[ctx]⟩
 simp only[ctx,if_true]
 exact heap_alloc_new w _
theorem Jq(t:HOk B w g h)(hB:B<=w.heap.size){ty e:Nat}(n:0<e){xs:List (List AV)}(m:∀x∈xs,x.length=e){v':Value}{cells:List Value}(st:Nat)
  (c:Below w.heap.size w w') (a:w'.ownsRow B ty e v' xs.length cells) (r:ARs (ctx w g h) xs.flatten cells) (d:∀b,v'.ownBlock=some b->w.heap.size<=b):
  Good B w g h w' ⟨g.β,λj=>if j=h.length then v' else g.cur j⟩ (h++[.row ty e xs st])/\AR (ctx w' ⟨g.β,λj=>if j=h.length then v' else g.cur j⟩ (h++[.row ty e xs st])) (.tl h.length st) v':=by
 have k:∀j,j<h.length->(if j=h.length then v' else g.cur j)=g.cur j:=λj u=>if_neg (by omega)
 have l:∀b,(Ob.row ty e xs st).blk ⟨g.β,λj=>if j=h.length then v' else g.cur j⟩ h.length=some b->w.heap.size<=b:=λb c=>by
  simp only[Ob.blk,if_true] at c;exact d b c
 have f:=Le.more (g:=g) (g':=⟨g.β,λj=>if j=h.length then v' else g.cur j⟩) (o:= .row ty e xs st) c (λ_ _=>rfl) k l
 obtain⟨A,q,p,_⟩:=w8 a
 refine⟨⟨t.more c (λ_ _=>rfl) k l f ⟨n,m,cells,?_,ARs.le f _ _ r⟩,f,c.mono hB,Nat.le_trans hB c.size⟩,⟨A,_,q,p⟩,⟨.row ty e xs st,by simp,rfl⟩,λs i=>?_⟩
 ·simp only[ctx,if_true];exact a
 ·simp[ctx,Ob.tok] at i
  subst i
  exact⟨zn _,λ_=>by simp[ctx]⟩
theorem jpa(q:HOk B w g h)(hB:B<=w.heap.size){i:Nat}(hi:h[i]? =some .res){o:Ob}(m:o.isRes=false)(a:Below w.heap.size w w')(e:∀j,j≠i->g'.β j=g.β j)(l:∀j,j≠i->g'.cur j=g.cur j)
  (c:∀b,o.blk g' i=some b->w.heap.size<=b) (n:Le (ctx w g h) (ctx w' g' (h.set i o))->o.ok B w' (ctx w' g' (h.set i o)) i):Good B w g h w' g' (h.set i o):=by
 have f:w.grownBy w' ((Ob.res).blk g i):=⟨a.os,a.tape,a.output,a.size,λk p _=>a.block k p⟩
 have d:=Le.turn (g':=g') (o':=o) hi m f e l (λb a=> .inr (c b a)) (λh=>by cases h)
 exact⟨q.turn hi f e l (λb a=> .inr (c b a)) d (n d),d,a.mono hB,Nat.le_trans hB a.size⟩
theorem Yca(f:HOk B w g h)(hB:B<=w.heap.size){i:Nat}(hi:h[i]? =some .res){ty:TypeId}{cs:List AV}{vs:Array Value}(e:ARs (ctx w g h) cs vs.toList):
  Good B w g h (w.alloc (.cells vs ty)) ⟨λj=>if j=i then w.heap.size else g.β j,g.cur⟩ (h.set i (.box ty cs))/\AR (ctx (w.alloc (.cells vs ty)) ⟨λj=>if j=i then w.heap.size else g.β j,g.cur⟩ (h.set i (.box ty cs))) (.ptr i 0) (.pointer (some ⟨w.heap.size,0,none⟩)):=by
 refine⟨jpa f hB hi rfl ((Below.refl _ w).alloc (zn _) _) (λj a=>if_neg a) (λ_ _=>rfl) (λb c=>?_) (λd=>⟨?_,vs,?_,ARs.le d _ _ e⟩),⟨.box ty cs,zo (vH hi),rfl⟩,by simp[ctx]⟩
 ·simp[Ob.blk] at c;omega
 ·simp[ctx];exact hB
 ·simp only[ctx,if_true];exact heap_alloc_new w _
theorem Yda(r:HOk B w g h)(hB:B<=w.heap.size){i:Nat}(hi:h[i]? =some .res){ty e:Nat}(l:0<e){xs:List (List AV)}(p:∀x∈xs,x.length=e){v':Value}{cells:List Value}(st:Nat)
  (c:Below w.heap.size w w') (a:w'.ownsRow B ty e v' xs.length cells) (q:ARs (ctx w g h) xs.flatten cells) (d:∀b,v'.ownBlock=some b->w.heap.size<=b):
  Good B w g h w' ⟨g.β,λj=>if j=i then v' else g.cur j⟩ (h.set i (.row ty e xs st))/\AR (ctx w' ⟨g.β,λj=>if j=i then v' else g.cur j⟩ (h.set i (.row ty e xs st))) (.tl i st) v':=by
 obtain⟨A,n,m,_⟩:=w8 a
 refine⟨jpa r hB hi rfl c (λ_ _=>rfl) (λj k=>if_neg k) (λb c=>?_) (λo=>⟨l,p,cells,?_,ARs.le o _ _ q⟩),⟨A,_,n,m⟩,⟨.row ty e xs st,zo (vH hi),rfl⟩,λs f=>?_⟩
 ·simp only[Ob.blk,if_true] at c;exact d b c
 ·simp only[ctx,if_true];exact a
 ·simp[ctx,Ob.tok,zo (vH hi)] at f
  subst f
  exact⟨zn _,λ_=>by simp[ctx]⟩
theorem QTa(i:HOk B w g h)(hB:B<=w.heap.size):
  Good B w g h (w.alloc (.map #[] 0)) ⟨λj=>if j=h.length then w.heap.size else g.β j,g.cur⟩ (h++[.mapo []])/\AR (ctx (w.alloc (.map #[] 0)) ⟨λj=>if j=h.length then w.heap.size else g.β j,g.cur⟩ (h++[.mapo []])) (.mp h.length) (.map (some w.heap.size)):=by
 have a:∀D,D<=w.heap.size->Below D w (w.alloc (.map #[] 0)):=λD f=>(Below.refl D w).alloc f _
 have c:∀j,j<h.length->(if j=h.length then w.heap.size else g.β j)=g.β j:=λj k=>if_neg (by omega)
 have d:∀b,(Ob.mapo []).blk ⟨λj=>if j=h.length then w.heap.size else g.β j,g.cur⟩ h.length=some b->w.heap.size<=b:=λb a=>by
  simp[Ob.blk] at a;omega
 have e:=Le.more (g:=g) (g':=⟨λj=>if j=h.length then w.heap.size else g.β j,g.cur⟩) (o:= .mapo []) (a _ (zn _)) c (λ_ _=>rfl) d
 refine⟨⟨i.more (a _ (zn _)) c (λ_ _=>rfl) d e ⟨by simp[ctx];exact hB, #[],0,[],?_,List.Perm.refl _,rfl,List.nodup_nil⟩,e,a _ hB,by simp;omega⟩,⟨.mapo [],by simp,rfl⟩,by simp[ctx]⟩
 simp only[ctx,if_true]
 exact heap_alloc_new w _
theorem Yea(c:HOk B w g h)(hB:B<=w.heap.size){i:Nat}(hi:h[i]? =some .res):
  Good B w g h (w.alloc (.map #[] 0)) ⟨λj=>if j=i then w.heap.size else g.β j,g.cur⟩ (h.set i (.mapo []))/\AR (ctx (w.alloc (.map #[] 0)) ⟨λj=>if j=i then w.heap.size else g.β j,g.cur⟩ (h.set i (.mapo []))) (.mp i) (.map (some w.heap.size)):=by
 refine⟨jpa c hB hi rfl ((Below.refl _ w).alloc (zn _) _) (λj a=>if_neg a) (λ_ _=>rfl) (λb d=>?_) (λe=>⟨?_, #[],0,[],?_,List.Perm.refl _,rfl,List.nodup_nil⟩),⟨.mapo [],zo (vH hi),rfl⟩,by simp[ctx]⟩
 ·simp[Ob.blk] at d;omega
 ·simp[ctx];exact hB
 ·simp only[ctx,if_true];exact heap_alloc_new w _
theorem Jr(w:World)(b:Nat)(o:Obj):w.grownBy { w with heap:=w.heap.setIfInBounds b o } (some b):=
 ⟨rfl,rfl,rfl,by simp,λk _ a=>Array.getElem?_setIfInBounds_ne (λe=>a (by rw[e]))⟩
theorem xha(m:HOk B w g h)(hB:B<=w.heap.size){id:Nat}{l l2 l':List (AV × AV)}(e:h[id]? =some (.mapo l)){es':Array MapEntry}{k':Nat}(p:l2.Perm l')(r:MapRel (ctx w g h) l2 es'.toList)(o:(es'.toList.map (·.key)).Nodup):
  Good B w g h { w with heap:=w.heap.setIfInBounds (g.β id) (.map es' k') } g (h.set id (.mapo l')):=by
 have a:=Jr w (g.β id) (.map es' k')
 have f:=Le.turn (g':=g) (o':= .mapo l') e rfl a (λ_ _=>rfl) (λ_ _=>rfl) (λb d=> .inl d) (λ_=>⟨rfl,λs q=>by cases q⟩)
 obtain⟨j,es,k,u,n,v,t,_⟩:=m.ok id _ e
 have c:g.β id<w.heap.size:=(qx.1 n).1
 refine⟨m.turn e a (λ_ _=>rfl) (λ_ _=>rfl) (λb d=> .inl d) f ⟨j,es',k',l2,?_,p,MapRel.le f _ _ r,o⟩,f,?_,by simpa using hB⟩
 ·show({ w with heap:=w.heap.setIfInBounds (g.β id) (.map es' k') }:World).heap[g.β id]? =_
  simp[c]
 ·exact(Below.refl B w).grown a hB λk i=>by injection i with i;subst i;exact j
theorem Ya(i:HOk B w g h)(hB:B<=w.heap.size)(o:Obj){ks:List AV}{us:List Value}(c:ARs (ctx w g h) ks us):Good B w g h (w.alloc o) g (h++[.raw w.heap.size o ks us]):=by
 have a:∀D,D<=w.heap.size->Below D w (w.alloc o):=λD f=>(Below.refl D w).alloc f _
 have e:∀b,(Ob.raw w.heap.size o ks us).blk g h.length=some b->w.heap.size<=b:=λb a=>by
  simp[Ob.blk] at a;omega
 have d:=Le.more (g:=g) (g':=g) (o:= .raw w.heap.size o ks us) (a _ (zn _)) (λ_ _=>rfl) (λ_ _=>rfl) e
 exact⟨i.more (a _ (zn _)) (λ_ _=>rfl) (λ_ _=>rfl) e d ⟨hB,heap_alloc_new w _,ARs.le d _ _ c⟩,d,a _ hB,by simp;omega⟩
theorem Qb(m:HOk B w g h)(hB:B<=w.heap.size){id l:Nat}{o:Obj}{ks:List AV}{us:List Value}(e:h[id]? =some (.raw l o ks us))(o':Obj):
  Good B w g h { w with heap:=w.heap.setIfInBounds l o' } g (h.set id (.raw l o' ks us)):=by
 have a:=Jr w l o'
 have f:=Le.turn (g':=g) (o':= .raw l o' ks us) e rfl a (λ_ _=>rfl) (λ_ _=>rfl) (λb d=> .inl d) (λ_=>⟨rfl,λs q=>by cases q⟩)
 obtain⟨j,n,p⟩:=m.ok id _ e
 have c:l<w.heap.size:=(qx.1 n).1
 refine⟨m.turn e a (λ_ _=>rfl) (λ_ _=>rfl) (λb d=> .inl d) f ⟨j,?_,ARs.le f _ _ p⟩,f,?_,by simpa using hB⟩
 ·show({ w with heap:=w.heap.setIfInBounds l o' }:World).heap[l]? =_
  simp[c]
 ·exact(Below.refl B w).grown a hB λk i=>by injection i with i;subst i;exact j
end
