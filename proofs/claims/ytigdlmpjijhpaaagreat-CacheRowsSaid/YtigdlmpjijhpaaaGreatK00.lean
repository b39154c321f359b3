import Derived.Test.YtigdlmpjijhpaaaGreatKA
import Derived.Below
import Derived.Laws.AppendOwn
import Derived.Laws.Tables
import Derived.Laws.Cells
import Derived.Laws.Slices
import Derived.Laws.StructEq
import Derived.DataElems
set_option linter.all false
namespace Go.Proofs.YtigdlmpjijhpaaaGreat.Ax
open Go
inductive AV where
 | v (x:Value)
 | sl (e:Nat) (xs:List (List AV))
 | tl (id st:Nat)
 | em
 | vw (a:AV) (e i n:Nat)
 | ptr (id off:Nat)
 | ep (a:AV) (e i k:Nat)
 | mp (id:Nat)
 | ag (cs:List AV)
 | tup (cs:List AV)
 | fn (f:Fn) (first cs:List AV)
 | bad
structure Ctx where
 rd:Addr->Value->Prop
 n:Nat
 live:Nat->Prop
 β:Nat->Nat
 cur:Nat->Value
 tok:Nat->Option Nat
def Tok(c:Ctx)(id st:Nat)(u:Value):Prop:=c.live id/\∀s,c.tok id=some s->st<=s/\(st=s->u=c.cur id)
mutual
def AR(c:Ctx):AV->Value->Prop
 | .v x,u=>u=x
 | .sl e xs,u=>∃A k,u= .slice A xs.length k/\xs.length<=k/\ARows c A e 0 xs
 | .tl id st,u=>(∃A n k,u= .slice A n k)/\Tok c id st u
 | .em,u=>∃A k,u= .slice (some A) 0 k
 | .vw a e i n,u=>∃A m b d k,AR c a (.slice A m b)/\i+n<=m/\n<=k/\u= .slice d n k/\(0<n->∃g,A=some g/\d=some (g.add (i*e)))/\(i=0->(d=A∨d=A.map (·.add 0))/\k=b)
 | .ptr id off,u=>c.live id/\u= .pointer (some ⟨c.β id,off,none⟩)
 | .ep a e i k,u=>∃A m b,AR c a (.slice (some A) m b)/\i<m/\u= .pointer (some (A.add (i*e+k)))
 | .mp id,u=>c.live id/\u= .map (some (c.β id))
 | .ag cs,u=>∃vs,u= .agg vs/\ARs c cs vs.toList
 | .tup cs,u=>∃vs,u= .tuple vs/\ARs c cs vs.toList
 | .fn f h cs,u=>∃us vs,u= .func f us vs/\ARs c h us.toList/\ARs c cs vs.toList
 | .bad,_=>True
def ARs(c:Ctx):List AV->List Value->Prop
 | [],vs=>vs=[]
 | a::aZ,vs=>∃v r,vs=v::r/\AR c a v/\ARs c aZ r
def ARows(c:Ctx)(A:Option Addr)(e:Nat):Nat->List (List AV)->Prop
 | _,[]=>True
 | i,r::rs=>(r.length=e/\ACells c A (i*e) r)/\ARows c A e (i+1) rs
def ACells(c:Ctx)(A:Option Addr):Nat->List AV->Prop
 | _,[]=>True
 | k,a::aZ=>(∃b u,A=some b/\c.rd (b.add k) u/\AR c a u)/\ACells c A (k+1) aZ
end
structure Le (c c':Ctx):Prop where
 rd:∀a u,c.rd a u->c'.rd a u
 n:c.n<=c'.n
 live:∀i,c.live i->c'.live i
 β:∀i,c.live i->c'.β i=c.β i
 tok:∀i,c.live i->∀s,c'.tok i=some s->∃s0,c.tok i=some s0/\((s=s0/\c'.cur i=c.cur i)∨s0<s)
theorem Le.refl(c:Ctx):Le c c:=⟨λ_ _ h=>h,zp _,λ_ h=>h,λ_ _=>rfl,λ_ _ s h=>⟨s,h,.inl ⟨rfl,rfl⟩⟩⟩
theorem Le.trans{a b c:Ctx}(h:Le a b)(k:Le b c):Le a c:=
 ⟨λx u g=>k.rd x u (h.rd x u g),Nat.le_trans h.n k.n,λi hi=>k.live i (h.live i hi),λi hi=>(k.β i (h.live i hi)).trans (h.β i hi),λi hi s l=>by
  obtain⟨j,p,m⟩:=k.tok i (h.live i hi) s l
  obtain⟨s0,o,f⟩:=h.tok i hi j p
  refine⟨s0,o,?_⟩
  rcases m with⟨rfl,e⟩|e
  ·rcases f with⟨rfl,d⟩|d
   ·exact .inl ⟨rfl,e.trans d⟩
   ·exact .inr d
  ·rcases f with⟨rfl,_⟩|d
   ·exact .inr e
   ·exact .inr (by omega)⟩
theorem Tok.le{c c':Ctx}(h:Le c c'){id st:Nat}{u:Value}(a:Tok c id st u):Tok c' id st u:=
 ⟨h.live id a.1,λs f=>by
  obtain⟨s0,j,d⟩:=h.tok id a.1 s f
  obtain⟨i,g⟩:=a.2 s0 j
  rcases d with⟨rfl,b⟩|b
  ·exact⟨i,λe=>by rw[b];exact g e⟩
  ·exact⟨by omega,λe=>by omega⟩⟩
mutual
theorem AR.le{c c':Ctx}(h:Le c c'):∀(a:AV) (u:Value),AR c a u->AR c' a u
 | .v _,_,e=>e
 | .sl e xs,u,⟨A,k,b,d,g⟩=>⟨A,k,b,d,ARows.le h A e 0 xs g⟩
 | .tl id st,u,b=>⟨b.1,Tok.le h b.2⟩
 | .em,_,b=>b
 | .vw a e i n,u,⟨A,m,j,o,k,b,d⟩=>⟨A,m,j,o,k,AR.le h a _ b,d⟩
 | .ptr id off,u,⟨b,d⟩=>⟨h.live id b,by rw[h.β id b];exact d⟩
 | .ep a e i k,u,⟨A,m,j,b,d,g⟩=>⟨A,m,j,AR.le h a _ b,d,g⟩
 | .mp id,u,⟨b,d⟩=>⟨h.live id b,by rw[h.β id b];exact d⟩
 | .ag cs,u,⟨vs,b,d⟩=>⟨vs,b,ARs.le h cs _ d⟩
 | .tup cs,u,⟨vs,b,d⟩=>⟨vs,b,ARs.le h cs _ d⟩
 | .fn f l cs,u,⟨us,vs,b,d,g⟩=>⟨us,vs,b,ARs.le h l _ d,ARs.le h cs _ g⟩
 | .bad,_,_=>True.intro
theorem ARs.le{c c':Ctx}(h:Le c c'):∀(aZ:List AV) (vs:List Value),ARs c aZ vs->ARs c' aZ vs
 | [],_,e=>e
 | a::aZ,vs,⟨v,r,d,b,f⟩=>⟨v,r,d,AR.le h a v b,ARs.le h aZ r f⟩
theorem ARows.le{c c':Ctx}(h:Le c c')(A:Option Addr)(e:Nat):∀(i:Nat) (rs:List (List AV)),ARows c A e i rs->ARows c' A e i rs
 | _,[],_=>True.intro
 | i,r::rs,⟨⟨b,a⟩,d⟩=>⟨⟨b,ACells.le h A (i*e) r a⟩,ARows.le h A e (i+1) rs d⟩
theorem ACells.le{c c':Ctx}(h:Le c c')(A:Option Addr):∀(k:Nat) (aZ:List AV),ACells c A k aZ->ACells c' A k aZ
 | _,[],_=>True.intro
 | k,a::aZ,⟨⟨b,u,g,d,f⟩,e⟩=>⟨⟨b,u,g,h.rd _ _ d,AR.le h a u f⟩,ACells.le h A (k+1) aZ e⟩
end
mutual
def AV.lt(n:Nat):AV->Bool
 | .v _=>true
 | .sl _ xs=>qO n xs
 | .tl id _=>decide (id<n)
 | .em=>true
 | .vw a _ _ _=>a.lt n
 | .ptr id _=>decide (id<n)
 | .ep a _ _ _=>a.lt n
 | .mp id=>decide (id<n)
 | .ag cs=>qy n cs
 | .tup cs=>qy n cs
 | .fn _ b cs=>qy n b && qy n cs
 | .bad=>true
def qy(n:Nat):List AV->Bool
 | []=>true
 | a::aZ=>a.lt n && qy n aZ
def qO(n:Nat):List (List AV)->Bool
 | []=>true
 | r::rs=>qy n r && qO n rs
end
structure Less (n:Nat) (c c':Ctx):Prop where
 rd:∀a u,c.rd a u->c'.rd a u
 sz:c'.n=n
 live:∀i,i<n->c.live i->c'.live i
 β:∀i,i<n->c'.β i=c.β i
 tok:∀i,i<n->c'.tok i=c.tok i
 cur:∀i,i<n->c'.cur i=c.cur i
mutual
theorem AR.less{n:Nat}{c c':Ctx}(h:Less n c c'):∀(a:AV) (u:Value),a.lt n=true->AR c a u->AR c' a u
 | .v _,_,_,e=>e
 | .sl e xs,u,l,⟨A,k,b,d,g⟩=>⟨A,k,b,d,ARows.less h A e 0 xs (by simpa [AV.lt] using l) g⟩
 | .tl id st,u,l,b=>by
   have l:id<n:=by simpa [AV.lt] using l
   exact⟨b.1,h.live id l b.2.1,λs o=>by rw[h.tok id l] at o;rw[h.cur id l];exact b.2.2 s o⟩
 | .em,_,_,b=>b
 | .vw a e i n,u,l,⟨A,m,j,q,k,b,d⟩=>⟨A,m,j,q,k,AR.less h a _ (by simpa [AV.lt] using l) b,d⟩
 | .ptr id off,u,l,⟨b,d⟩=>by
   have l:id<n:=by simpa [AV.lt] using l
   exact⟨h.live id l b,by rw[h.β id l];exact d⟩
 | .ep a e i k,u,l,⟨A,m,j,b,d,g⟩=>⟨A,m,j,AR.less h a _ (by simpa [AV.lt] using l) b,d,g⟩
 | .mp id,u,l,⟨b,d⟩=>by
   have l:id<n:=by simpa [AV.lt] using l
   exact⟨h.live id l b,by rw[h.β id l];exact d⟩
 | .ag cs,u,l,⟨vs,b,d⟩=>⟨vs,b,ARs.less h cs _ (by simpa [AV.lt] using l) d⟩
 | .tup cs,u,l,⟨vs,b,d⟩=>⟨vs,b,ARs.less h cs _ (by simpa [AV.lt] using l) d⟩
 | .fn f p cs,u,l,⟨us,vs,b,d,g⟩=>by
   have l:qy n p=true/\qy n cs=true:=by simpa [AV.lt] using l
   exact⟨us,vs,b,ARs.less h p _ l.1 d,ARs.less h cs _ l.2 g⟩
 | .bad,_,_,_=>True.intro
theorem ARs.less{n:Nat}{c c':Ctx}(h:Less n c c'):∀(aZ:List AV) (vs:List Value),qy n aZ=true->ARs c aZ vs->ARs c' aZ vs
 | [],_,_,e=>e
 | a::aZ,vs,l,⟨v,r,d,b,f⟩=>by
   have l:a.lt n=true/\qy n aZ=true:=by simpa [qy] using l
   exact⟨v,r,d,AR.less h a v l.1 b,ARs.less h aZ r l.2 f⟩
theorem ARows.less{n:Nat}{c c':Ctx}(h:Less n c c')(A:Option Addr)(e:Nat):∀(i:Nat) (rs:List (List AV)),qO n rs=true->ARows c A e i rs->ARows c' A e i rs
 | _,[],_,_=>True.intro
 | i,r::rs,l,⟨⟨b,a⟩,d⟩=>by
   have l:qy n r=true/\qO n rs=true:=by simpa [qO] using l
   exact⟨⟨b,ACells.less h A (i*e) r l.1 a⟩,ARows.less h A e (i+1) rs l.2 d⟩
theorem ACells.less{n:Nat}{c c':Ctx}(h:Less n c c')(A:Option Addr):∀(k:Nat) (aZ:List AV),qy n aZ=true->ACells c A k aZ->ACells c' A k aZ
 | _,[],_,_=>True.intro
 | k,a::aZ,l,⟨⟨b,u,g,d,f⟩,e⟩=>by
   have l:a.lt n=true/\qy n aZ=true:=by simpa [qy] using l
   exact⟨⟨b,u,g,h.rd _ _ d,AR.less h a u l.1 f⟩,ACells.less h A (k+1) aZ l.2 e⟩
end
open Go.RowKit
inductive Ob where
 | box (ty:TypeId) (cs:List AV)
 | row (ty e:Nat) (xs:List (List AV)) (st:Nat)
 | mapo (es:List (AV × AV))
 | raw (l:Nat) (o:Obj) (ks:List AV) (us:List Value)
 | gone
 | res
def Ob.isRes:Ob->Bool
 | .res=>true
 | _=>false
structure Gh where
 β:Nat->Nat
 cur:Nat->Value
def Ob.blk(g:Gh)(i:Nat):Ob->Option Nat
 | .box _ _=>some (g.β i)
 | .row _ _ _ _=>(g.cur i).ownBlock
 | .mapo _=>some (g.β i)
 | .raw l _ _ _=>some l
 | .gone | .res=>none
def kept(g:Gh)(h:List Ob)(b:Nat):Prop:=∃(i:Nat) (o:Ob),h[i]? =some o/\o.blk g i=some b
def Ob.tok:Option Ob->Option Nat
 | some (.row _ _ _ st)=>some st
 | _=>none
def ctx(w:World)(g:Gh)(h:List Ob):Ctx:=
 { rd:=λa u=>¬ kept g h a.block/\w.cell? a=some u
   n:=h.length
   live:=λi=>∃o,h[i]? =some o/\o.isRes=false
   β:=g.β
   cur:=g.cur
   tok:=λi=>Ob.tok h[i]? }
def MapRel(c:Ctx):List (AV × AV)->List MapEntry->Prop
 | [],es=>es=[]
 | (k,v)::r,es=>∃e q,es=e::q/\AR c k e.key/\AR c v e.val/\MapRel c r q
theorem MapRel.le{c c':Ctx}(h:Le c c'):∀(l:List (AV × AV)) (es:List MapEntry),MapRel c l es->MapRel c' l es
 | [],_,e=>e
 | (_,_)::r,_,⟨e,q,d,a,f,b⟩=>⟨e,q,d,AR.le h _ _ a,AR.le h _ _ f,MapRel.le h r q b⟩
def Ob.ok(B:Nat)(w:World)(c:Ctx)(i:Nat):Ob->Prop
 | .box ty cs=>B<=c.β i/\∃vs,w.heap[c.β i]? =some (.cells vs ty (0,0))/\ARs c cs vs.toList
 | .row ty e xs _=>0<e/\(∀x∈xs,x.length=e)/\∃cells,w.ownsRow B ty e (c.cur i) xs.length cells/\ARs c xs.flatten cells
 | .mapo l=>B<=c.β i/\∃es k l',w.heap[c.β i]? =some (.map es k)/\l'.Perm l/\MapRel c l' es.toList/\(es.toList.map (·.key)).Nodup
 | .raw l o ks us=>B<=l/\w.heap[l]? =some o/\ARs c ks us
 | .gone | .res=>True
structure HOk (B:Nat) (w:World) (g:Gh) (h:List Ob):Prop where
 ok:∀(i:Nat) (o:Ob),h[i]? =some o->o.ok B w (ctx w g h) i
 apart:∀(i j:Nat) (o p:Ob) (b:Nat),i≠j->h[i]? =some o->h[j]? =some p->o.blk g i=some b->p.blk g j≠some b
section
variable {B:Nat} {w w':World} {g g':Gh} {h h':List Ob} {i:Nat} {o o':Ob}
theorem qeb{c:Ctx}(h:o.ok B w c i)(j:c.β=g.β)(m:c.cur=g.cur){b:Nat}(a:o.blk g i=some b):B<=b/\b<w.heap.size:=by
 cases o with
 | box ty cs=>
   obtain⟨f,vs,d,_⟩:=h
   rw[j] at f d
   injection a with a
   subst a
   exact⟨f,(qM.1 d).1⟩
 | row ty e xs st=>
   obtain⟨_,_,cells,d,_⟩:=h
   rw[m] at d
   exact World.ownsRow.lt d b a
 | mapo l=>
   obtain⟨f,vs,k,l',d,_⟩:=h
   rw[j] at f d
   injection a with a
   subst a
   exact⟨f,(qM.1 d).1⟩
 | raw l o ks us=>
   obtain⟨f,d,_⟩:=h
   injection a with a
   subst a
   exact⟨f,(qM.1 d).1⟩
 | gone=>cases a
 | res=>cases a
theorem HOk.lt(k:HOk B w g h)(hi:h[i]? =some o){b:Nat}(a:o.blk g i=some b):B<=b/\b<w.heap.size:=qeb (k.ok i o hi) rfl rfl a
theorem jna{D:Nat}{e:TypeId}{size:Nat}{v:Value}{k:Nat}{xs:List Value}(h:w.ownsRow D e size v k xs)(c:∀b,v.ownBlock=some b->w'.heap[b]? =w.heap[b]?):w'.ownsRow D e size v k xs:=by
 refine⟨h.1,?_⟩
 rcases h.2 with d|⟨g,cap,cur,a,i,f,r⟩
 ·exact .inl d
 ·subst a
  exact .inr ⟨g,cap,cur,rfl,i,(c g rfl).trans f,r⟩
theorem Ob.ok_le{c c':Ctx}(hi:o.isRes=false->c.live i)(d:o.ok B w c i)(a:Le c c')(s:c'.cur i=c.cur i)(q:c.β=g.β)(n:c.cur=g.cur)(m:∀b,o.blk g i=some b->w'.heap[b]? =w.heap[b]?):o.ok B w' c' i:=by
 cases o with
 | box ty cs=>
   obtain⟨j,vs,f,h⟩:=d
   have hi:=hi rfl
   refine⟨by rw[a.β i hi];exact j,vs,?_,ARs.le a _ _ h⟩
   rw[a.β i hi]
   exact(m _ (by rw[q];rfl)).trans f
 | row ty e xs st=>
   obtain⟨j,r,cells,f,h⟩:=d
   refine⟨j,r,cells,?_,ARs.le a _ _ h⟩
   rw[s]
   exact jna f λb p=>m b (by rw[n] at p;exact p)
 | mapo l=>
   obtain⟨j,vs,k,l',f,u,h,t⟩:=d
   have hi:=hi rfl
   refine⟨by rw[a.β i hi];exact j,vs,k,l',?_,u,MapRel.le a _ _ h,t⟩
   rw[a.β i hi]
   exact(m _ (by rw[q];rfl)).trans f
 | raw l o ks us=>exact⟨d.1,(m _ rfl).trans d.2.1,ARs.le a _ _ d.2.2⟩
 | gone=>trivial
 | res=>trivial
theorem Le.ext(d:Below w.heap.size w w'):Le (ctx w g h) (ctx w' g h):=
 ⟨λa _ b=>⟨b.1,(World.cell?_of_block (w:=w) (d.block a.block (World.block_lt_of_cell? w a b.2))).trans b.2⟩,zp _,λ_ h=>h,λ_ _=>rfl,λ_ _ s c=>⟨s,c,.inl ⟨rfl,rfl⟩⟩⟩
theorem vP(hi:h[i]? =some o):i<h.length:=(zd.1 hi).1
theorem joa(hi:h[i]? =some o)(a:o.isRes=false):(ctx w g h).live i:=⟨o,hi,a⟩
theorem HOk.ext(k:HOk B w g h)(a:Below w.heap.size w w'):HOk B w' g h:=
 ⟨λi o hi=>Ob.ok_le (g:=g) (joa hi) (k.ok i o hi) (Le.ext a) rfl rfl rfl λb c=>a.block b (k.lt hi c).2,k.apart⟩
theorem KF{j:Nat}{p:Ob}(a:g'.β j=g.β j)(b:g'.cur j=g.cur j):p.blk g' j=p.blk g j:=by
 cases p with
 | box ty cs=>exact congrArg some a
 | row ty e n st=>exact congrArg Value.ownBlock b
 | mapo _=>exact congrArg some a
 | raw _ _ _ _=>rfl
 | gone=>rfl
 | res=>rfl
theorem Le.turn(hi:h[i]? =some o)(t:o'.isRes=false)(F:w.grownBy w' (o.blk g i))(C:∀j,j≠i->g'.β j=g.β j)(A:∀j,j≠i->g'.cur j=g.cur j)
  (E:∀b,o'.blk g' i=some b->o.blk g i=some b∨w.heap.size<=b)
  (q:o.isRes=false->g'.β i=g.β i/\∀s,Ob.tok (some o')=some s->∃s0,Ob.tok (some o)=some s0/\((s=s0/\g'.cur i=g.cur i)∨s0<s)):Le (ctx w g h) (ctx w' g' (h.set i o')):=by
 have m:=vP hi
 have d:∀j,j=i->(ctx w g h).live j->o.isRes=false:=λj e ⟨p,f,n⟩=>by
  subst e;rw[hi] at f;injection f with f;subst f;exact n
 refine⟨λa u D=>?_,by simp[ctx],λj ⟨p,k,x⟩=>?_,λj v=>?_,λj v s z=>?_⟩
 ·obtain⟨f,n⟩:=D
  have r:=World.block_lt_of_cell? w a n
  refine⟨λ⟨j,p,k,l⟩=>?_,?_⟩
  ·by_cases c:j=i
   ·subst c
    rw[zo m] at k
    injection k with k
    subst k
    rcases E _ l with B|B
    ·exact f ⟨j,o,hi,B⟩
    ·omega
   ·rw[zc (λe=>c e.symm)] at k
    exact f ⟨j,p,k,by rw[KF (C j c) (A j c)] at l;exact l⟩
  ·exact(World.cell?_of_block (w:=w) (F.block a.block r (λe=>f ⟨i,o,hi,e.symm⟩))).trans n
 ·by_cases c:j=i
  ·subst c;exact⟨o',zo m,t⟩
  ·exact⟨p,by rw[zc (λe=>c e.symm)];exact k,x⟩
 ·by_cases c:j=i
  ·have:=(q (d j c v)).1
   rw[c];exact this
  ·exact C j c
 ·by_cases c:j=i
  ·have q:=(q (d j c v)).2
   subst c
   have y:Ob.tok (some o')=some s:=by
    have:=z
    simp only[ctx,zo m] at this
    exact this
   obtain⟨s0,f,n⟩:=q s y
   exact⟨s0,by simp only[ctx,hi];exact f,n⟩
  ·refine⟨s,?_,.inl ⟨rfl,A j c⟩⟩
   have:=z
   simp only[ctx,zc (λe=>c e.symm)] at this
   exact this
theorem HOk.turn(k:HOk B w g h)(hi:h[i]? =some o)(F:w.grownBy w' (o.blk g i))(E:∀j,j≠i->g'.β j=g.β j)(z:∀j,j≠i->g'.cur j=g.cur j)
  (D:∀b,o'.blk g' i=some b->o.blk g i=some b∨w.heap.size<=b) (A:Le (ctx w g h) (ctx w' g' (h.set i o'))) (C:o'.ok B w' (ctx w' g' (h.set i o')) i):HOk B w' g' (h.set i o'):=by
 have s:=vP hi
 have l:∀(j:Nat) (p:Ob),j≠i->p.blk g' j=p.blk g j:=λj p y=>KF (E j y) (z j y)
 refine⟨λj p a=>?_,λv t p q b u a m c f=>?_⟩
 ·by_cases d:j=i
  ·subst d
   rw[zo s] at a
   injection a with a
   subst a
   exact C
  ·rw[zc (λe=>d e.symm)] at a
   refine Ob.ok_le (g:=g) (joa a) (k.ok j p a) A (z j d) rfl rfl λb x=>?_
   exact F.block b (k.lt a x).2 λe=>k.apart j i p o b d a hi x e.symm
 ·have key:∀(j:Nat) (p:Ob) (b:Nat),j≠i->h[j]? =some p->p.blk g j=some b->o'.blk g' i≠some b:=λj p b d a c e=>by
   rcases D b e with n|n
   ·exact k.apart j i p o b d a hi c n
   ·have:=(k.lt a c).2;omega
  by_cases n:v=i
  ·subst n
   have r:t≠v:=λe=>u e.symm
   rw[zo s] at a
   injection a with a
   subst a
   rw[zc (λe=>r e.symm)] at m
   rw[l t q r] at f
   exact key t q b r m f c
  ·rw[zc (λe=>n e.symm)] at a
   rw[l v p n] at c
   by_cases r:t=i
   ·subst r
    rw[zo s] at m
    injection m with m
    subst m
    exact key v p b n a c f
   ·rw[zc (λe=>r e.symm)] at m
    rw[l t q r] at f
    exact k.apart v t p q b u a m c f
theorem KG{j:Nat}{p:Ob}(a:(h++[o])[j]? =some p):(j<h.length/\h[j]? =some p)∨(j=h.length/\p=o):=by
 rcases Nat.lt_or_ge j h.length with b|b
 ·rw[zN b] at a;exact .inl ⟨b,a⟩
 ·rw[zX b] at a
  have c:j - h.length=0:=by
   rcases Nat.eq_zero_or_pos (j - h.length) with e|e
   ·exact e
   ·rw[qB (by simp;omega)] at a;cases a
  rw[c] at a
  injection a with a
  exact .inr ⟨by omega,a.symm⟩
theorem Le.more(q:Below w.heap.size w w')(m:∀j,j<h.length->g'.β j=g.β j)(l:∀j,j<h.length->g'.cur j=g.cur j)(x:∀b,o.blk g' h.length=some b->w.heap.size<=b):Le (ctx w g h) (ctx w' g' (h++[o])):=by
 have n:∀j,(ctx w g h).live j->j<h.length:=λj ⟨p,d,_⟩=>vP d
 refine⟨λa u t=>?_,by simp[ctx],λj ⟨p,d,i⟩=>⟨p,by rw[zN (vP d)];exact d,i⟩,λj c=>m j (n j c),λj c s r=>?_⟩
 ·obtain⟨v,k⟩:=t
  have f:=World.block_lt_of_cell? w a k
  refine⟨λ⟨j,p,d,e⟩=>?_,(World.cell?_of_block (w:=w) (q.block a.block f)).trans k⟩
  rcases KG d with⟨c,d⟩|⟨rfl,rfl⟩
  ·exact v ⟨j,p,d,by rw[KF (m j c) (l j c)] at e;exact e⟩
  ·have:=x _ e
   omega
 ·have c:=n j c
  refine⟨s,?_,.inl ⟨rfl,l j c⟩⟩
  have:=r
  simp only[ctx,zN c] at this
  exact this
theorem HOk.more(k:HOk B w g h)(C:Below w.heap.size w w')(D:∀j,j<h.length->g'.β j=g.β j)(v:∀j,j<h.length->g'.cur j=g.cur j)
  (l:∀b,o.blk g' h.length=some b->w.heap.size<=b) (y:Le (ctx w g h) (ctx w' g' (h++[o]))) (A:o.ok B w' (ctx w' g' (h++[o])) h.length):HOk B w' g' (h++[o]):=by
 have c:∀(j:Nat) (p:Ob),j<h.length->p.blk g' j=p.blk g j:=λj p n=>KF (D j n) (v j n)
 refine⟨λj p f=>?_,λt s p q b i f u d a=>?_⟩
 ·rcases KG f with⟨n,f⟩|⟨rfl,rfl⟩
  ·exact Ob.ok_le (g:=g) (joa f) (k.ok j p f) y (v j n) rfl rfl λb x=>C.block b (k.lt f x).2
  ·exact A
 ·rcases KG f with⟨z,m⟩|⟨rfl,rfl⟩
  ·rw[c t p z] at d
   rcases KG u with⟨r,e⟩|⟨rfl,rfl⟩
   ·rw[c s q r] at a
    exact k.apart t s p q b i m e d a
   ·have:=l b a
    have:=(k.lt m d).2
    omega
  ·rcases KG u with⟨r,e⟩|⟨rfl,rfl⟩
   ·rw[c s q r] at a
    have:=l b d
    have:=(k.lt e a).2
    omega
   ·exact i rfl
def Vz(n:Nat):Ob->Bool
 | .box _ cs=>qy n cs
 | .row _ _ xs _=>qO n xs
 | .mapo es=>es.all λx=>x.1.lt n && x.2.lt n
 | .raw _ _ ks _=>qy n ks
 | .gone | .res=>true
theorem XU(n:Nat):∀(a b:List AV),qy n a=true->qy n b=true->qy n (a++b)=true
 | [],_,_,h=>h
 | x::a,b,h,k=>by
   have h:x.lt n=true/\qy n a=true:=by simpa [qy] using h
   simp[qy,h.1,XU n a b h.2 k]
theorem JH(n:Nat):∀(xs:List (List AV)),qO n xs=true->qy n xs.flatten=true
 | [],_=>rfl
 | r::rs,h=>by
   have h:qy n r=true/\qO n rs=true:=by simpa [qO] using h
   exact XU n r _ h.1 (JH n rs h.2)
theorem vB(w:World)(g:Gh)(h L:List Ob):Less h.length (ctx w g (h++L)) (ctx w g h):=
 { rd:=λa u b=>⟨λ⟨j,p,d,e⟩=>b.1 ⟨j,p,by rw[zN (vP d)];exact d,e⟩,b.2⟩
   sz:=rfl
   live:=λi hi ⟨o,c,f⟩=>⟨o,by rw[zN hi] at c;exact c,f⟩
   β:=λ_ _=>rfl
   tok:=λi hi=>by show Ob.tok _=Ob.tok _;rw[zN hi]
   cur:=λ_ _=>rfl }
theorem MapRel.less{n:Nat}{c c':Ctx}(h:Less n c c'):∀(l:List (AV × AV)) (es:List MapEntry),(l.all λx=>x.1.lt n && x.2.lt n)=true->MapRel c l es->MapRel c' l es
 | [],_,_,e=>e
 | (a,b)::r,_,d,⟨e,q,j,f,g,i⟩=>by
   simp only[List.all_cons,zq] at d
   exact⟨e,q,j,AR.less h _ _ d.1.1 f,AR.less h _ _ d.1.2 g,MapRel.less h r q d.2 i⟩
theorem HOk.take{L:List Ob}(k:HOk B w g (h++L))(y:∀o∈h,Vz h.length o=true):HOk B w g h:=by
 have up:∀(j:Nat) (p:Ob),h[j]? =some p->(h++L)[j]? =some p:=λj p n=>by rw[zN (vP n)];exact n
 refine⟨λi o hi=>?_,λi j o p b r hi t=>k.apart i j o p b r (up i o hi) (up j p t)⟩
 have c:=k.ok i o (up i o hi)
 have a:=y o (qr hi)
 have q:=vB w g h L
 cases o with
 | box ty cs=>
   obtain⟨m,vs,d,f⟩:=c
   exact⟨m,vs,d,ARs.less q _ _ a f⟩
 | row ty e xs st=>
   obtain⟨m,u,cells,d,f⟩:=c
   exact⟨m,u,cells,d,ARs.less q _ _ (JH _ _ a) f⟩
 | mapo l=>
   obtain⟨m,vs,k,l',d,n,f,v⟩:=c
   refine⟨m,vs,k,l',d,n,MapRel.less q _ _ ?_ f,v⟩
   have a:(l.all λx=>x.1.lt h.length && x.2.lt h.length)=true:=a
   rw[qa] at a⊢
   exact λx s=>a x (n.mem_iff.1 s)
 | raw l o ks us=>exact⟨c.1,c.2.1,ARs.less q _ _ a c.2.2⟩
 | gone=>trivial
 | res=>trivial
def KH(φ:Nat->Ob)(i:Nat)(o:Ob):Ob:=if o.isRes then φ i else o
def fill(φ:Nat->Ob)(h:List Ob):List Ob:=h.mapIdx (KH φ)
def Upto(φ:Nat->Ob)(n:Nat):Prop:=∀i,n<=i->φ i= .res
theorem Upto.mono{φ:Nat->Ob}{n m:Nat}(k:Upto φ n)(h:n<=m):Upto φ m:=λi hi=>k i (Nat.le_trans h hi)
variable {φ:Nat->Ob}
theorem ju:(fill φ h).length=h.length:=by simp[fill]
theorem wS:(fill φ h)[i]? =h[i]?.map (KH φ i):=by simp[fill]
theorem qL(hi:h[i]? =some o)(a:o.isRes=false):(fill φ h)[i]? =some o:=by
 rw[wS,hi];simp[KH,a]
theorem ji(c:o.isRes=false):fill φ (h.set i o)=(fill φ h).set i o:=by
 apply qX
 intro j
 rw[wS]
 by_cases a:i=j
 ·subst a
  by_cases b:i<h.length
  ·rw[zo b,zo (by rw[ju];exact b)];simp[KH,c]
  ·rw[qB (by simp;omega),qB (by simp[ju];omega)];rfl
 ·rw[zc a,zc a,wS]
theorem xc{L:List Ob}(b:Upto φ h.length):fill φ (h++L)=fill φ h++L:=by
 apply qX
 intro j
 rw[wS]
 by_cases a:j<h.length
 ·rw[zN a,zN (by rw[ju];exact a),wS]
 ·rw[zX (by omega),zX (by rw[ju];omega),ju]
  cases d:L[j - h.length]? with
  | none=>rfl
  | some o=>
    simp only[Option.map_some,KH]
    split
    ·rename_i c
     rw[b j (by omega)]
     cases o<;>first|rfl|cases c
    ·rfl
theorem qma:fill (λ_=> .res) h=h:=by
 apply qX
 intro j
 rw[wS]
 cases h[j]? with
 | none=>rfl
 | some o=>simp only[Option.map_some,KH];cases o<;>rfl
def ResK(h h':List Ob):Prop:=∀i:Nat,h[i]? =some Ob.res->h'[i]? =some Ob.res
theorem ResK.refl:ResK h h:=λ_ k=>k
theorem ResK.trans{h'':List Ob}(a:ResK h h')(b:ResK h' h''):ResK h h'':=λi k=>b i (a i k)
theorem qj(hi:h[i]? =some o)(b:o.isRes=false):ResK h (h.set i o'):=λj a=>by
 by_cases e:i=j
 ·subst e;rw[hi] at a;injection a with a;subst a;cases b
 ·rw[zc e];exact a
theorem resK_app{L:List Ob}:ResK h (h++L):=λj a=>by
 rw[zN (zd.1 a).1];exact a
end
inductive K where
 | int (k:IntKind)|bool|str|slice (e:TypeId)|struct (fs:List (Nat × TypeId))|arr (n:Nat) (e:TypeId)|ptr (e:TypeId)|mapk (k e:TypeId)|other
structure Ty where
 ok:Bool
 agg:Bool
 sz:Nat
 bytes:Nat
 zero:Option (List Value)
 one:Bool
 kind:K
def yda:TypeDesc->Bool
 | .struct _ | .array _ _=>true
 | _=>false
def kOf:TypeDesc->K
 | .int k=> .int k
 | .bool=> .bool
 | .string=> .str
 | .slice e=> .slice e
 | .struct a=> .struct (a.toList.map λf=>(f.offset,f.type))
 | .array n e=> .arr n e
 | .pointer e=> .ptr e
 | .map k e=> .mapk k e
 | _=> .other
def W6a:Option Value->Bool
 | some v=>v.oneCell'
 | none=>false
def zP(P:Program)(t:TypeId):Ty:=
 match P.underlying t,P.info? t with
 | some d,some i=>⟨true,yda d,i.size,i.bytes,i.zero.map λv=>v.cells.toList,W6a i.zero,kOf d⟩
 | _,_=>⟨false,false,0,0,none,false,.other⟩
theorem jx{P:Program}{t:TypeId}(h:(zP P t).ok=true):∃d i,P.underlying t=some d/\P.info? t=some i/\zP P t=⟨true,yda d,i.size,i.bytes,i.zero.map λv=>v.cells.toList,W6a i.zero,kOf d⟩:=by
 cases a:P.underlying t with
 | none=>rw[zP,a] at h;exact absurd h (by simp)
 | some d=>
   cases hi:P.info? t with
   | none=>rw[zP,a,hi] at h;exact absurd h (by simp)
   | some i=>exact⟨d,i,rfl,rfl,by rw[zP,a,hi]⟩
def nth:List AV->Nat->AV
 | [],_=> .bad
 | a::_,0=>a
 | _::r,n+1=>nth r n
def cut:List AV->Nat->Nat->Option (List AV)
 | _,0,0=>some []
 | [],_,_=>none
 | a::r,0,n+1=>(cut r 0 n).map (a:: ·)
 | _::r,k+1,n=>cut r k n
def lay:List AV->Nat->List AV->Option (List AV)
 | cs,0,[]=>some cs
 | [],_,_=>none
 | _::r,0,v::vs=>(lay r 0 vs).map (v:: ·)
 | a::r,k+1,vs=>(lay r k vs).map (a:: ·)
def ofV:Value->AV
 | .agg cs=> .ag (cs.toList.map .v)
 | x=> .v x
def ev(T:Nat->AV):Operand->AV
 | .tmp i=>T i
 | .const x=>ofV x
 | .func f=> .fn (.func f) [] []
 | .global _=> .bad
def AV.one:AV->Bool
 | .v x=>x.oneCell'
 | .ag _ | .tup _ | .bad=>false
 | _=>true
def AV.cells:AV->Option (List AV)
 | .ag cs=>if cs.all AV.one then some cs else none
 | .tup _ | .bad=>none
 | .v x=>if x.oneCell' then some [.v x] else none
 | a=>some [a]
def part(cs:List AV)(k:Nat)(agg:Bool)(n:Nat):Option AV:=
 if agg then(cut cs k n).map .ag else if k<cs.length then some (nth cs k) else none
def eOf(h:List Ob):AV->Option Nat
 | .sl e _=>some e
 | .tl id _=>match h[id]? with
   | some (.row _ e _ _)=>some e
   | _=>none
 | .vw a e _ _=>(eOf h a).bind λb=>if b=e then some e else none
 | _=>none
def qc(h:List Ob):AV->Option (List (List AV))
 | .sl _ xs=>some xs
 | .tl id st=>match h[id]? with
   | some (.row _ _ xs s)=>if s=st then some xs else none
   | _=>none
 | .vw a e i n=>(qc h a).bind λxs=>if i+n<=xs.length/\(n=0∨eOf h a=some e) then some ((xs.drop i).take n) else none
 | .v (.slice none 0 _)=>some []
 | .em=>some []
 | _=>none
section
variable {c:Ctx}
theorem wz:∀ {aZ:List AV} {vs:List Value},ARs c aZ vs->aZ.length=vs.length
 | [],vs,e=>by have e:vs=[]:=e;rw[e];rfl
 | a::aZ,vs,⟨v,r,b,_,d⟩=>by rw[b];simp[wz d]
theorem yO:∀ {aZ:List AV} {vs:List Value},ARs c aZ vs->∀i,i<aZ.length->∃u,vs[i]? =some u/\AR c (nth aZ i) u
 | a::aZ,vs,⟨v,r,b,d,e⟩,0,_=>⟨v,by rw[b];rfl,d⟩
 | a::aZ,vs,⟨v,r,b,d,e⟩,i+1,hi=>by
   obtain⟨u,g,f⟩:=yO e i (by simpa using hi)
   exact⟨u,by rw[b];exact g,f⟩
theorem KI:∀ {aZ:List AV} {i:Nat} {a:AV},aZ[i]? =some a->nth aZ i=a
 | [],_,_,h=>by cases h
 | x::aZ,0,a,h=>by injection h
 | x::aZ,i+1,a,h=>KI (aZ:=aZ) (i:=i) h
theorem Z0:∀ {aZ:List AV} {i:Nat},i<aZ.length->aZ[i]? =some (nth aZ i)
 | x::aZ,0,_=>rfl
 | x::aZ,i+1,h=>Z0 (aZ:=aZ) (i:=i) (by simpa using h)
theorem JI:∀(vs:List Value),ARs c (vs.map .v) vs
 | []=>rfl
 | v::r=>⟨v,r,rfl,rfl,JI r⟩
theorem vQ:∀ {aZ bs:List AV} {us vs:List Value},ARs c aZ us->ARs c bs vs->ARs c (aZ++bs) (us++vs)
 | [],bs,us,vs,e,h=>by have e:us=[]:=e;subst e;exact h
 | a::aZ,bs,us,vs,⟨u,r,d,b,f⟩,h=>by subst d;exact⟨u,r++vs,rfl,b,vQ f h⟩
theorem Ye(x:Value):AR c (ofV x) x:=by
 unfold ofV
 split
 ·exact⟨_,rfl,JI _⟩
 ·rfl
theorem jpa:∀ {aZ:List AV} {vs:List Value},ARs c aZ vs->∀(k n:Nat) {rs:List AV},cut aZ k n=some rs->ARs c rs ((vs.drop k).take n)/\k+n<=vs.length/\rs.length=n
 | [],vs,e,0,0,rs,h=>by have e:vs=[]:=e;cases h;rw[e];exact⟨rfl,zp _,rfl⟩
 | [],_,_,k+1,n,rs,h=>by cases h
 | [],_,_,0,n+1,rs,h=>by cases h
 | a::aZ,vs,_,0,0,rs,h=>by cases h;simp[ARs]
 | a::aZ,vs,⟨u,r,g,j,f⟩,0,n+1,rs,h=>by
   unfold cut at h
   cases b:cut aZ 0 n with
   | none=>rw[b] at h;cases h
   | some q=>
     rw[b] at h
     injection h with h
     subst h
     subst g
     obtain⟨i,l,d⟩:=jpa f 0 n b
     exact⟨⟨u,_,rfl,j,i⟩,by simp;omega,by simp[d]⟩
 | a::aZ,vs,⟨u,r,g,j,f⟩,k+1,n,rs,h=>by
   unfold cut at h
   subst g
   obtain⟨i,l,d⟩:=jpa f k n h
   exact⟨i,by simp;omega,d⟩
theorem KJ:∀ {aZ:List AV} {vs:List Value},ARs c aZ vs->∀(k:Nat) {ns rs:List AV} {us:List Value},ARs c ns us->lay aZ k ns=some rs->ARs c rs (vs.take k++us++vs.drop (k+us.length))/\k+us.length<=vs.length
 | aZ,vs,h,0,[],rs,us,b,e=>by
   have b:us=[]:=b
   subst b
   have:lay aZ 0 []=some aZ:=by cases aZ<;>rfl
   rw[this] at e
   cases e
   exact⟨by simpa using h,by simp⟩
 | [],vs,e,k+1,ns,rs,us,b,h=>by cases h
 | [],vs,e,0,n::ns,rs,us,b,h=>by cases h
 | a::aZ,vs,⟨u,r,j,m,f⟩,0,n::ns,rs,us,⟨x,s,o,g,l⟩,h=>by
   unfold lay at h
   cases d:lay aZ 0 ns with
   | none=>rw[d] at h;cases h
   | some q=>
     rw[d] at h
     injection h with h
     subst h
     subst j
     subst o
     obtain⟨i,p⟩:=KJ f 0 l d
     exact⟨⟨x,_,rfl,g,by simpa using i⟩,by simp;omega⟩
 | a::aZ,vs,⟨u,r,j,m,f⟩,k+1,ns,rs,us,b,h=>by
   unfold lay at h
   cases d:lay aZ k ns with
   | none=>rw[d] at h;cases h
   | some q=>
     rw[d] at h
     injection h with h
     subst h
     subst j
     obtain⟨i,p⟩:=KJ f k b d
     refine⟨⟨u,_,rfl,m,?_⟩,by simp;omega⟩
     rw[show k+1+us.length=(k+us.length)+1 by omega]
     exact i
theorem WV:∀ {aZ:List AV} {k:Nat} {ns rs:List AV},lay aZ k ns=some rs->rs.length=aZ.length
 | aZ,0,[],rs,h=>by
   have:lay aZ 0 []=some aZ:=by cases aZ<;>rfl
   rw[this] at h;cases h;rfl
 | [],k+1,ns,rs,h=>by cases h
 | [],0,n::ns,rs,h=>by cases h
 | a::aZ,0,n::ns,rs,h=>by
   unfold lay at h
   cases b:lay aZ 0 ns with
   | none=>rw[b] at h;cases h
   | some q=>rw[b] at h;injection h with h;subst h;simp[WV b]
 | a::aZ,k+1,ns,rs,h=>by
   unfold lay at h
   cases b:lay aZ k ns with
   | none=>rw[b] at h;cases h
   | some q=>rw[b] at h;injection h with h;subst h;simp[WV b]
theorem xoa:∀ {a:AV} {u:Value},a.one=true->AR c a u->u.oneCell'=true/\u.cells= #[u]
 | .v x,u,h,e=>by
   have e:u=x:=e
   subst e
   refine⟨h,?_⟩
   cases u<;>first|rfl|cases h
 | .sl _ _,u,_,⟨A,k,e,_⟩=>by subst e;exact⟨rfl,rfl⟩
 | .ptr _ _,u,_,⟨_,e⟩=>by subst e;exact⟨rfl,rfl⟩
 | .mp _,u,_,⟨_,e⟩=>by subst e;exact⟨rfl,rfl⟩
 | .ep _ _ _ _,u,_,⟨A,m,b,_,_,e⟩=>by subst e;exact⟨rfl,rfl⟩
 | .em,u,_,⟨A,k,e⟩=>by subst e;exact⟨rfl,rfl⟩
 | .vw _ _ _ _,u,_,⟨A,m,b,d,k,_,_,_,e,_⟩=>by subst e;exact⟨rfl,rfl⟩
 | .fn _ _ _,u,_,⟨us,vs,e,_⟩=>by subst e;exact⟨rfl,rfl⟩
 | .tl id st,u,_,⟨⟨A,n,k,e⟩,_⟩=>by subst e;exact⟨rfl,rfl⟩
theorem Qp:∀ {aZ:List AV} {vs:List Value},aZ.all AV.one=true->ARs c aZ vs->∀v∈vs,v.oneCell'=true
 | [],vs,_,e,v,b=>by have e:vs=[]:=e;rw[e] at b;cases b
 | a::aZ,vs,h,⟨u,r,f,d,g⟩,v,b=>by
   rw[List.all_cons,zq] at h
   subst f
   rcases zy.1 b with rfl|b
   ·exact(xoa h.1 d).1
   ·exact Qp h.2 g v b
theorem Yf{a:AV}{u:Value}{cs:List AV}(h:a.cells=some cs)(j:AR c a u):ARs c cs u.cells.toList/\(∀v∈u.cells.toList,v.oneCell'=true):=by
 have key:a.one=true->cs=[a]->ARs c cs u.cells.toList/\(∀v∈u.cells.toList,v.oneCell'=true):=λd m=>by
  obtain⟨l,g⟩:=xoa d j
  rw[m,g]
  exact⟨⟨u,[],rfl,j,rfl⟩,by simpa using l⟩
 cases a with
 | v x=>
   simp only[AV.cells] at h
   split at h
   ·rename_i d;injection h with h;exact key d h.symm
   ·cases h
 | sl e xs=>injection h with h;exact key rfl h.symm
 | tl i s=>injection h with h;exact key rfl h.symm
 | ptr i o=>injection h with h;exact key rfl h.symm
 | em=>injection h with h;exact key rfl h.symm
 | vw a e i k=>injection h with h;exact key rfl h.symm
 | ep a e i k=>injection h with h;exact key rfl h.symm
 | mp i=>injection h with h;exact key rfl h.symm
 | fn f a b=>injection h with h;exact key rfl h.symm
 | ag aZ=>
   simp only[AV.cells] at h
   split at h
   ·rename_i d
    injection h with h
    subst h
    obtain⟨vs,l,g⟩:=j
    subst l
    exact⟨g,Qp d g⟩
   ·cases h
 | tup _=>cases h
 | bad=>cases h
theorem jqa(A:Option Addr)(e:Nat):∀(xs:List (List AV)) (a i:Nat) (r:List AV),ARows c A e a xs->xs[i]? =some r->r.length=e/\ACells c A ((a+i)*e) r
 | r::rs,a,0,_,⟨d,_⟩,h=>by injection h with h;subst h;exact d
 | r::rs,a,i+1,q,⟨_,b⟩,hi=>by
   have:=jqa A e rs (a+1) i q b hi
   rw[show a+1+i=a+(i+1) by omega] at this
   exact this
theorem xpa(A:Option Addr):∀(aZ:List AV) (k0 k:Nat) (a:AV),ACells c A k0 aZ->aZ[k]? =some a->∃b u,A=some b/\c.rd (b.add (k0+k)) u/\AR c a u
 | a::aZ,k0,0,_,⟨e,_⟩,h=>by injection h with h;subst h;exact e
 | a::aZ,k0,k+1,q,⟨_,d⟩,f=>by
   have:=xpa A aZ (k0+1) k q d f
   rw[show k0+1+k=k0+(k+1) by omega] at this
   exact this
theorem Z1{α:Type}{e:Nat}:∀ {xs:List (List α)},(∀x∈xs,x.length=e)->∀ {i k:Nat} {r:List α} {a:α},xs[i]? =some r->r[k]? =some a->xs.flatten[i*e+k]? =some a
 | x::xs,h,0,k,r,a,hi,b=>by
   injection hi with hi
   subst hi
   rw[List.flatten_cons,zN (by have:=(zd.1 b).1;omega)]
   simpa using b
 | x::xs,h,i+1,k,r,a,hi,b=>by
   have c:x.length=e:=h x (by simp)
   have:=Z1 (xs:=xs) (λy d=>h y (by simp[d])) (i:=i) hi b
   rw[List.flatten_cons,zX (by rw[c,Nat.succ_mul];omega),c]
   rw[show(i+1)*e+k - e=i*e+k by rw[Nat.succ_mul];omega]
   exact this
theorem vR{α:Type}{e:Nat}:∀ {xs:List (List α)},(∀x∈xs,x.length=e)->xs.flatten.length=xs.length*e
 | [],_=>by simp
 | x::xs,h=>by
   rw[List.flatten_cons,zg,vR (λy a=>h y (by simp[a])),h x (by simp),List.length_cons,Nat.succ_mul]
   omega
end
structure RowsAt (w:World) (c:Ctx) (e:Nat) (xs:List (List AV)) (A:Option Addr):Prop where
 len:∀r∈xs,r.length=e
 cell:∀(i k:Nat) (r:List AV) (a:AV),xs[i]? =some r->r[k]? =some a->∃ad u,A=some ad/\w.cell? (ad.add (i*e+k))=some u/\AR c a u
section
variable {B:Nat} {w:World} {g:Gh} {h:List Ob}
theorem Qh{id st:Nat}{u:Value}(a:AR (ctx w g h) (.tl id st) u){ty e:Nat}{xs:List (List AV)}(b:h[id]? =some (.row ty e xs st)):u=g.cur id:=
 (a.2.2 st (by simp[ctx,b,Ob.tok])).2 rfl
theorem yo{D:Nat}{e:TypeId}{size:Nat}{v:Value}{k:Nat}{xs:List Value}(h:w.ownsRow D e size v k xs):∃A a,v= .slice A k a/\k<=a:=by
 rcases h.2 with⟨f,c⟩|⟨g,cap,cur,b,_,_,d,_⟩
 ·subst c;exact⟨none,0,f,zp _⟩
 ·exact⟨_,cap,b,d⟩
theorem wA(U:HOk B w g h):∀(a:AV) {u:Value} {xs:List (List AV)},AR (ctx w g h) a u->qc h a=some xs->
  ∃A k,u= .slice A xs.length k/\xs.length<=k/\(∀e,eOf h a=some e->RowsAt w (ctx w g h) e xs A)/\(eOf h a=none->xs=[])
 | .sl e ys,u,xs,o,b=>by
   injection b with b
   subst b
   obtain⟨A,k,t,y,z⟩:=o
   refine⟨A,k,t,y,λW c=>?_,λc=>by cases c⟩
   injection c with c
   subst c
   refine⟨λr b=>?_,λi k r a hi E=>?_⟩
   ·obtain⟨i,hi,l⟩:=List.mem_iff_getElem.1 b
    exact(jqa A e _ 0 i r z (by rw[zi hi,l])).1
   ·have:=jqa A e _ 0 i r z hi
    obtain⟨R,u,l,F,G⟩:=xpa A r _ k a this.2 E
    rw[Nat.zero_add] at F
    exact⟨R,u,l,F.2,G⟩
 | .tl id st,u,xs,o,b=>by
   simp only[qc] at b
   split at b
   ·rename_i ty e ys s I
    split at b
    ·rename_i hs
     injection b with b
     subst hs
     subst b
     have hc:=Qh o I
     obtain⟨h0,t,cells,y,z⟩:=U.ok id _ I
     obtain⟨A,H,l,F⟩:=yo y
     refine⟨A,H,hc.trans l,F,λW c=>?_,λc=>by simp[eOf,I] at c⟩
     simp only[eOf,I,Option.some.injEq] at c
     subst c
     refine⟨t,λi k r a hi E=>?_⟩
     have V:=Z1 t hi E
     obtain⟨u,L,D⟩:=yO z _ (zd.1 V).1
     rw[KI V] at D
     rcases y.2 with⟨G,S⟩|⟨Y,cap,cur,Z,_⟩
     ·have:=(zd.1 hi).1
      omega
     ·have X:A=some ⟨Y,0,none⟩:=by
       have q:g.cur id= .slice A ys.length H:=l
       have C:g.cur id=_:=Z
       rw[q] at C
       injection C
      refine⟨_,u,X,?_,D⟩
      have q:g.cur id= .slice A ys.length H:=l
      exact World.ownsRow.cells y (g:=Y) (by show(g.cur id).ownBlock=_;rw[q,X];rfl) _ u L
    ·cases b
   ·cases b
 | .vw a e i n,u,xs,o,b=>by
   have ih:= @wA U a
   obtain⟨A,m,H,A',k,t,y,z,h4,h5,_⟩:=o
   simp only[qc] at b
   cases p:qc h a with
   | none=>rw[p] at b;cases b
   | some ys=>
     rw[p] at b
     simp only[Option.bind_some] at b
     split at b
     ·rename_i P
      injection b with b
      subst b
      obtain⟨A0,k0,l,F,G,S⟩:=ih t p
      injection l with e5 e6 e7
      subst e5 e6 e7
      have f:((ys.drop i).take n).length=n:=by simp;omega
      refine⟨A',k,by rw[f];exact h4,by rw[f];exact z,λW c=>?_,λc=>?_⟩
      ·simp only[eOf] at c
       cases d:eOf h a with
       | none=>rw[d] at c;cases c
       | some J=>
         rw[d] at c
         simp only[Option.bind_some] at c
         split at c
         ·rename_i Q
          injection c with c
          subst Q c
          have T:=G _ d
          refine⟨λr b=>T.len r (List.mem_of_mem_drop (List.mem_of_mem_take b)),λj k r a O E=>?_⟩
          have M:j<n:=by
           have:=(zd.1 O).1
           rw[f] at this;exact this
          rw[qZ,if_pos M,List.getElem?_drop] at O
          obtain⟨R,u,z1,z2,z3⟩:=T.cell (i+j) k r a O E
          obtain⟨δ,z4,z5⟩:=h5 (by omega)
          rw[z1] at z4
          injection z4 with z4
          subst z4
          refine⟨_,u,z5,?_,z3⟩
          rw[Addr.add_add,show i*J+(j*J+k)=(i+j)*J+k by rw[Nat.add_mul];omega]
          exact z2
         ·cases c
      ·simp only[eOf] at c
       cases N:(ys.drop i).take n with
       | nil=>rfl
       | cons r rs=>
         exfalso
         have b:r∈ys:=List.mem_of_mem_drop (List.mem_of_mem_take (by rw[N];simp:r∈(ys.drop i).take n))
         cases d:eOf h a with
         | none=>rw[S d] at b;cases b
         | some J=>
           rw[d] at c
           simp only[Option.bind_some] at c
           split at c
           ·cases c
           ·rename_i K
            rcases P.2 with h0|h0
            ·rw[h0] at N;simp at N
            ·rw[d] at h0;injection h0 with h0;exact K h0
     ·cases b
 | .v x,u,xs,o,b=>by
   have o:u=x:=o
   subst o
   unfold qc at b
   split at b
   ·rename_i heq;cases heq
   ·rename_i heq;cases heq
   ·rename_i heq;cases heq
   ·rename_i k heq
    injection b with b
    subst b
    injection heq with heq
    exact⟨none,k,heq,Nat.zero_le _,λe c=>by simp[eOf] at c,λ_=>rfl⟩
   ·rename_i heq;cases heq
   ·cases b
 | .em,u,xs,⟨A,k,e⟩,b=>by
   injection b with b
   subst b
   exact⟨_,k,e,Nat.zero_le _,λe c=>by simp[eOf] at c,λ_=>rfl⟩
 | .ptr _ _,_,_,_,b | .ep _ _ _ _,_,_,_,b | .mp _,_,_,_,b | .ag _,_,_,_,b | .tup _,_,_,_,b | .fn _ _ _,_,_,_,b | .bad,_,_,_,b=>by cases b
end
structure Good (B:Nat) (w:World) (g:Gh) (h:List Ob) (w':World) (g':Gh) (h':List Ob):Prop where
 ok:HOk B w' g' h'
 le:Le (ctx w g h) (ctx w' g' h')
 below:Below B w w'
 size:B<=w'.heap.size
section
variable {B:Nat} {w w' w'':World} {g g' g'':Gh} {h h' h'':List Ob} {P:Program}
theorem Good.refl(a:HOk B w g h)(hB:B<=w.heap.size):Good B w g h w g h:=⟨a,Le.refl _,Below.refl _ _,hB⟩
theorem Good.trans(a:Good B w g h w' g' h')(b:Good B w' g' h' w'' g'' h''):Good B w g h w'' g'' h'':=
 ⟨b.ok,a.le.trans b.le,a.below.trans b.below,b.size⟩
theorem Good.drew(b:HOk B w g h)(hB:B<=w.heap.size):Good B w g h w.drew g h:=
 have a:∀D,Below D w w.drew:=λ_=>⟨rfl,rfl,rfl,zp _,λ_ _=>rfl⟩
 ⟨b.ext (a _),Le.ext (a _),a _,hB⟩
def PartAt(w:World)(c:Ctx)(b:Addr)(cs:List AV):Prop:=∀(k:Nat) (a:AV),cs[k]? =some a->∃u,w.cell? (b.add k)=some u/\AR c a u
theorem jra:∀ {aZ:List AV} {k n:Nat} {rs:List AV},cut aZ k n=some rs->∀j,j<n->aZ[k+j]? =rs[j]? /\j<rs.length
 | _,0,0,_,_,j,b=>by omega
 | [],k+1,n,rs,h,_,_=>by cases h
 | [],0,n+1,rs,h,_,_=>by cases h
 | a::aZ,0,n+1,rs,h,j,b=>by
   unfold cut at h
   cases c:cut aZ 0 n with
   | none=>rw[c] at h;cases h
   | some q=>
     rw[c] at h
     injection h with h
     subst h
     cases j with
     | zero=>simp
     | succ j=>
       have:=jra c j (by omega)
       simp only[Nat.zero_add,List.getElem?_cons_succ,List.length_cons] at this⊢
       exact⟨this.1,by omega⟩
 | a::aZ,k+1,n,rs,h,j,b=>by
   unfold cut at h
   have:=jra h j b
   rw[show k+1+j=(k+j)+1 by omega,List.getElem?_cons_succ]
   exact this
theorem WW:∀ {aZ:List AV} {k n:Nat} {rs:List AV},cut aZ k n=some rs->rs.length=n
 | aZ,0,0,_,h=>by
   have:cut aZ 0 0=some []:=by cases aZ<;>rfl
   rw[this] at h;cases h;rfl
 | [],k+1,n,rs,h=>by cases h
 | [],0,n+1,rs,h=>by cases h
 | a::aZ,0,n+1,rs,h=>by
   unfold cut at h
   cases b:cut aZ 0 n with
   | none=>rw[b] at h;cases h
   | some q=>rw[b] at h;injection h with h;subst h;simp[WW b]
 | a::aZ,k+1,n,rs,h=>by unfold cut at h;exact WW h
theorem vra{c:Ctx}:∀ {aZ:List AV} {vs:List Value},aZ.length=vs.length->(∀(k:Nat) (a:AV),aZ[k]? =some a->∃u:Value,vs[k]? =some u/\AR c a u)->ARs c aZ vs
 | [],[],_,_=>rfl
 | [],_::_,h,_=>by cases h
 | _::_,[],h,_=>by cases h
 | a::aZ,v::vs,g,h=>by
   obtain⟨u,d,e⟩:=h 0 a rfl
   injection d with d
   subst d
   exact⟨_,_,rfl,e,vra (by simpa using g) λk b f=>h (k+1) b f⟩
theorem PartAt.vals{c:Ctx}{e:Addr}:∀ {cs:List AV},PartAt w c e cs->∃vs:List Value,ARs c cs vs/\∀(j:Nat) (u:Value),vs[j]? =some u->w.cell? (e.add j)=some u:=by
 intro cs n
 have:∀k,∃u,k<cs.length->(w.cell? (e.add k)=some u/\AR c (nth cs k) u):=λk=>by
  by_cases d:k<cs.length
  ·obtain⟨u,m,l⟩:=n k _ (Z0 d);exact⟨u,λ_=>⟨m,l⟩⟩
  ·exact⟨undef,λh=>absurd h d⟩
 obtain⟨f,i⟩:=Classical.axiomOfChoice this
 refine⟨(List.range cs.length).map f,vra (by simp) λk a d=>?_,λj u g=>?_⟩
 ·have b:=(zd.1 d).1
  refine⟨f k,by simp[b],?_⟩
  have:=(i k b).2
  rw[KI d] at this
  exact this
 ·by_cases b:j<cs.length
  ·simp[b] at g
   subst g
   exact(i j b).1
  ·have:j<((List.range cs.length).map f).length:=(zd.1 g).1
   simp at this
   omega
theorem VA{c:Ctx}{t:TypeId}(B:(zP P t).ok=true){p:Addr}{cs:List AV}(z:PartAt w c p cs){k:Nat}{x:AV}(b:part cs k (zP P t).agg (zP P t).sz=some x):
  ∃v,(loadVar t (p.add k)).run P w= .ok v w/\AR c x v:=by
 obtain⟨d,i,A,hi,e⟩:=jx B
 rw[e] at b
 simp only[part] at b
 have o:∀n rs,cut cs k n=some rs->PartAt w c (p.add k) rs:=λn rs g j a y=>by
  have s:=WW g
  have D:=(zd.1 y).1
  have:=jra g j (by omega)
  obtain⟨u,h,m⟩:=z (k+j) a (this.1.trans y)
  exact⟨u,by rw[Addr.add_add];exact h,m⟩
 have f:(isAgg t).run P w= .ok (yda d) w:=by
  simp only[isAgg,Sem.run_bind,run_underlying A,Result.andThen_ok]
  cases d<;>rfl
 have q:(sizeOf t).run P w= .ok i.size w:=by simp[sizeOf,typeInfo,hi]
 split at b
 ·rename_i r
  cases g:cut cs k i.size with
  | none=>rw[g] at b;cases b
  | some rs=>
    rw[g] at b
    injection b with b
    subst b
    obtain⟨vs,h,m⟩:=(o _ _ g).vals
    have l:vs.length=i.size:=by rw[<-wz h,WW g]
    have s:=run_loadCells_list (P:=P) w (p.add k) vs m
    rw[l] at s
    refine⟨.agg vs.toArray,?_,vs.toArray,rfl,by simpa using h⟩
    simp only[loadVar,Sem.run_bind,f,Result.andThen_ok,r,if_true,q,s,Sem.run_pure]
 ·rename_i r
  split at b
  ·rename_i C
   injection b with b
   subst b
   obtain⟨u,h,m⟩:=z k _ (Z0 C)
   refine⟨u,?_,m⟩
   simp only[loadVar,Sem.run_bind,f,Result.andThen_ok,r,if_false,Bool.false_eq_true,run_load,h]
  ·cases b
theorem Yg(j:HOk B w g h){id:Nat}{ty:TypeId}{cs:List AV}(l:h[id]? =some (.box ty cs)):PartAt w (ctx w g h) ⟨g.β id,0,none⟩ cs:=λk a d=>by
 obtain⟨m,vs,e,i⟩:=j.ok id _ l
 obtain⟨u,f,c⟩:=yO i k (zd.1 d).1
 rw[KI d] at c
 refine⟨u,?_,c⟩
 have b:w.heap[g.β id]? =some (.cells vs ty (0,0)):=e
 rw[Addr.add_lit]
 simp only[World.cell?,b,Nat.zero_add]
 simpa using f
theorem JL(w:World)(b:Nat)(vs:Array Value):w.grownBy (w.setRow b vs) (some b):=
 ⟨rfl,rfl,rfl,by simp,λk _ a=>setRow_other w b k vs λe=>a (by rw[e])⟩
theorem Jba(j:HOk B w g h)(hB:B<=w.heap.size){id:Nat}{ty:TypeId}{cs cs':List AV}(i:h[id]? =some (.box ty cs)){a:Array Value}(m:ARs (ctx w g h) cs' a.toList):
  Good B w g h (w.setRow (g.β id) a) g (h.set id (.box ty cs')):=by
 have f:=JL w (g.β id) a
 have d:=Le.turn (g':=g) (o':= .box ty cs') i rfl f (λ_ _=>rfl) (λ_ _=>rfl) (λb c=> .inl c) (λ_=>⟨rfl,λs n=>by cases n⟩)
 obtain⟨l,vs,o,p⟩:=j.ok id _ i
 refine⟨j.turn i f (λ_ _=>rfl) (λ_ _=>rfl) (λb c=> .inl c) d ⟨l,a,setRow_heap w _ vs a ty (0,0) o,ARs.le d _ _ m⟩,d,?_,by simpa using hB⟩
 exact(Below.refl B w).grown f hB λk e=>by injection e with e;subst e;exact l
theorem Zv(r:HOk B w g h)(hB:B<=w.heap.size){id:Nat}{ty e:Nat}{xs xs':List (List AV)}{st:Nat}(q:h[id]? =some (.row ty e xs st))(v:∀x∈xs',x.length=e){v':Value}{cells:List Value}{st':Nat}
  (i:w.grownBy w' (g.cur id).ownBlock) (c:w'.ownsRow B ty e v' xs'.length cells) (y:ARs (ctx w g h) xs'.flatten cells) (m:st'=st/\v'=g.cur id∨st<st') (l:∀b,v'.ownBlock=some b->(g.cur id).ownBlock=some b∨w.heap.size<=b):
  Good B w g h w' ⟨g.β,λj=>if j=id then v' else g.cur j⟩ (h.set id (.row ty e xs' st')):=by
 have t:∀j,j≠id->(if j=id then v' else g.cur j)=g.cur j:=λj z=>if_neg z
 have a:∀b,(Ob.row ty e xs' st').blk ⟨g.β,λj=>if j=id then v' else g.cur j⟩ id=some b->(Ob.row ty e xs st).blk g id=some b∨w.heap.size<=b:=λb u=>by
  simp only[Ob.blk,if_true] at u;exact l b u
 have n:=Le.turn (g':=⟨g.β,λj=>if j=id then v' else g.cur j⟩) (o':= .row ty e xs' st') q rfl i (λ_ _=>rfl) t a (λ_=>⟨rfl,λs o=>by
  injection o with o
  subst o
  refine⟨st,rfl,?_⟩
  rcases m with⟨f,p⟩|f
  ·exact .inl ⟨f,by simp[p]⟩
  ·exact .inr f⟩)
 obtain⟨h0,f,d,p,C⟩:=r.ok id _ q
 refine⟨r.turn q i (λ_ _=>rfl) t a n ⟨h0,v,cells,?_,ARs.le n _ _ y⟩,n,?_,Nat.le_trans hB i.size⟩
 ·simp only[ctx,if_true];exact c
 ·exact(Below.refl B w).grown i hB λk A=>(World.ownsRow.lt p k A).1
theorem Jca(i:HOk B w g h)(hB:B<=w.heap.size){ty:TypeId}{cs:List AV}{vs:Array Value}(f:ARs (ctx w g h) cs vs.toList):
  Good B w g h (w.alloc (.cells vs ty)) ⟨λj=>if j=h.length then w.heap.size else g.β j,g.cur⟩ (h++[.box ty cs])/\AR (ctx (w.alloc (.cells vs ty)) ⟨λj=>if j=h.length then w.heap.size else g.β j,g.cur⟩ (h++[.box ty cs])) (.ptr h.length 0) (.pointer (some ⟨w.heap.size,0,none⟩)):=by
 have a:∀D,D<=w.heap.size->Below D w (w.alloc (.cells vs ty)):=λD k=>(Below.refl D w).alloc k _
 have d:∀j,j<h.length->(if j=h.length then w.heap.size else g.β j)=g.β j:=λj l=>if_neg (by omega)
 have e:∀b,(Ob.box ty cs).blk ⟨λj=>if j=h.length then w.heap.size else g.β j,g.cur⟩ h.length=some b->w.heap.size<=b:=λb a=>by
  simp[Ob.blk] at a;omega
 have c:=Le.more (g:=g) (g':=⟨λj=>if j=h.length then w.heap.size else g.β j,g.cur⟩) (o:= .box ty cs) (a _ (zp _)) d (λ_ _=>rfl) e
 refine⟨⟨i.more (a _ (zp _)) d (λ_ _=>rfl) e c ⟨by simp[ctx];exact hB,vs,?_,ARs.le c _ _ f⟩,c,a _ hB,by simp;omega⟩,⟨.box ty cs,by simp,rfl⟩,by simp[ctx]⟩
 simp only[ctx,if_true]
 exact heap_alloc_new w _
theorem JM(r:HOk B w g h)(hB:B<=w.heap.size){ty e:Nat}(q:0<e){xs:List (List AV)}(n:∀x∈xs,x.length=e){v':Value}{cells:List Value}(st:Nat)
  (c:Below w.heap.size w w') (a:w'.ownsRow B ty e v' xs.length cells) (p:ARs (ctx w g h) xs.flatten cells) (d:∀b,v'.ownBlock=some b->w.heap.size<=b):
  Good B w g h w' ⟨g.β,λj=>if j=h.length then v' else g.cur j⟩ (h++[.row ty e xs st])/\AR (ctx w' ⟨g.β,λj=>if j=h.length then v' else g.cur j⟩ (h++[.row ty e xs st])) (.tl h.length st) v':=by
 have k:∀j,j<h.length->(if j=h.length then v' else g.cur j)=g.cur j:=λj u=>if_neg (by omega)
 have l:∀b,(Ob.row ty e xs st).blk ⟨g.β,λj=>if j=h.length then v' else g.cur j⟩ h.length=some b->w.heap.size<=b:=λb c=>by
  simp only[Ob.blk,if_true] at c;exact d b c
 have f:=Le.more (g:=g) (g':=⟨g.β,λj=>if j=h.length then v' else g.cur j⟩) (o:= .row ty e xs st) c (λ_ _=>rfl) k l
 obtain⟨A,m,t,_⟩:=yo a
 refine⟨⟨r.more c (λ_ _=>rfl) k l f ⟨q,n,cells,?_,ARs.le f _ _ p⟩,f,c.mono hB,Nat.le_trans hB c.size⟩,⟨A,_,m,t⟩,⟨.row ty e xs st,by simp,rfl⟩,λs i=>?_⟩
 ·simp only[ctx,if_true];exact a
 ·simp[ctx,Ob.tok] at i
  subst i
  exact⟨zp _,λ_=>by simp[ctx]⟩
theorem jsa(n:HOk B w g h)(hB:B<=w.heap.size){i:Nat}(hi:h[i]? =some .res){o:Ob}(m:o.isRes=false)(a:Below w.heap.size w w')(f:∀j,j≠i->g'.β j=g.β j)(e:∀j,j≠i->g'.cur j=g.cur j)
  (c:∀b,o.blk g' i=some b->w.heap.size<=b) (q:Le (ctx w g h) (ctx w' g' (h.set i o))->o.ok B w' (ctx w' g' (h.set i o)) i):Good B w g h w' g' (h.set i o):=by
 have l:w.grownBy w' ((Ob.res).blk g i):=⟨a.os,a.tape,a.output,a.size,λk p _=>a.block k p⟩
 have d:=Le.turn (g':=g') (o':=o) hi m l f e (λb a=> .inr (c b a)) (λh=>by cases h)
 exact⟨n.turn hi l f e (λb a=> .inr (c b a)) d (q d),d,a.mono hB,Nat.le_trans hB a.size⟩
theorem YFa(e:HOk B w g h)(hB:B<=w.heap.size){i:Nat}(hi:h[i]? =some .res){ty:TypeId}{cs:List AV}{vs:Array Value}(c:ARs (ctx w g h) cs vs.toList):
  Good B w g h (w.alloc (.cells vs ty)) ⟨λj=>if j=i then w.heap.size else g.β j,g.cur⟩ (h.set i (.box ty cs))/\AR (ctx (w.alloc (.cells vs ty)) ⟨λj=>if j=i then w.heap.size else g.β j,g.cur⟩ (h.set i (.box ty cs))) (.ptr i 0) (.pointer (some ⟨w.heap.size,0,none⟩)):=by
 refine⟨jsa e hB hi rfl ((Below.refl _ w).alloc (zp _) _) (λj d=>if_neg d) (λ_ _=>rfl) (λb a=>?_) (λf=>⟨?_,vs,?_,ARs.le f _ _ c⟩),⟨.box ty cs,zo (vP hi),rfl⟩,by simp[ctx]⟩
 ·simp[Ob.blk] at a;omega
 ·simp[ctx];exact hB
 ·simp only[ctx,if_true];exact heap_alloc_new w _
theorem YGa(p:HOk B w g h)(hB:B<=w.heap.size){i:Nat}(hi:h[i]? =some .res){ty e:Nat}(n:0<e){xs:List (List AV)}(l:∀x∈xs,x.length=e){v':Value}{cells:List Value}(st:Nat)
  (c:Below w.heap.size w w') (a:w'.ownsRow B ty e v' xs.length cells) (m:ARs (ctx w g h) xs.flatten cells) (d:∀b,v'.ownBlock=some b->w.heap.size<=b):
  Good B w g h w' ⟨g.β,λj=>if j=i then v' else g.cur j⟩ (h.set i (.row ty e xs st))/\AR (ctx w' ⟨g.β,λj=>if j=i then v' else g.cur j⟩ (h.set i (.row ty e xs st))) (.tl i st) v':=by
 obtain⟨A,k,q,_⟩:=yo a
 refine⟨jsa p hB hi rfl c (λ_ _=>rfl) (λj o=>if_neg o) (λb c=>?_) (λr=>⟨n,l,cells,?_,ARs.le r _ _ m⟩),⟨A,_,k,q⟩,⟨.row ty e xs st,zo (vP hi),rfl⟩,λs f=>?_⟩
 ·simp only[Ob.blk,if_true] at c;exact d b c
 ·simp only[ctx,if_true];exact a
 ·simp[ctx,Ob.tok,zo (vP hi)] at f
  subst f
  exact⟨zp _,λ_=>by simp[ctx]⟩
theorem Jda(f:HOk B w g h)(hB:B<=w.heap.size):
  Good B w g h (w.alloc (.map #[] 0)) ⟨λj=>if j=h.length then w.heap.size else g.β j,g.cur⟩ (h++[.mapo []])/\AR (ctx (w.alloc (.map #[] 0)) ⟨λj=>if j=h.length then w.heap.size else g.β j,g.cur⟩ (h++[.mapo []])) (.mp h.length) (.map (some w.heap.size)):=by
 have a:∀D,D<=w.heap.size->Below D w (w.alloc (.map #[] 0)):=λD i=>(Below.refl D w).alloc i _
 have c:∀j,j<h.length->(if j=h.length then w.heap.size else g.β j)=g.β j:=λj k=>if_neg (by omega)
 have d:∀b,(Ob.mapo []).blk ⟨λj=>if j=h.length then w.heap.size else g.β j,g.cur⟩ h.length=some b->w.heap.size<=b:=λb a=>by
  simp[Ob.blk] at a;omega
 have e:=Le.more (g:=g) (g':=⟨λj=>if j=h.length then w.heap.size else g.β j,g.cur⟩) (o:= .mapo []) (a _ (zp _)) c (λ_ _=>rfl) d
 refine⟨⟨f.more (a _ (zp _)) c (λ_ _=>rfl) d e ⟨by simp[ctx];exact hB, #[],0,[],?_,List.Perm.refl _,rfl,List.nodup_nil⟩,e,a _ hB,by simp;omega⟩,⟨.mapo [],by simp,rfl⟩,by simp[ctx]⟩
 simp only[ctx,if_true]
 exact heap_alloc_new w _
theorem YHa(c:HOk B w g h)(hB:B<=w.heap.size){i:Nat}(hi:h[i]? =some .res):
  Good B w g h (w.alloc (.map #[] 0)) ⟨λj=>if j=i then w.heap.size else g.β j,g.cur⟩ (h.set i (.mapo []))/\AR (ctx (w.alloc (.map #[] 0)) ⟨λj=>if j=i then w.heap.size else g.β j,g.cur⟩ (h.set i (.mapo []))) (.mp i) (.map (some w.heap.size)):=by
 refine⟨jsa c hB hi rfl ((Below.refl _ w).alloc (zp _) _) (λj a=>if_neg a) (λ_ _=>rfl) (λb d=>?_) (λe=>⟨?_, #[],0,[],?_,List.Perm.refl _,rfl,List.nodup_nil⟩),⟨.mapo [],zo (vP hi),rfl⟩,by simp[ctx]⟩
 ·simp[Ob.blk] at d;omega
 ·simp[ctx];exact hB
 ·simp only[ctx,if_true];exact heap_alloc_new w _
theorem JN(w:World)(b:Nat)(o:Obj):w.grownBy { w with heap:=w.heap.setIfInBounds b o } (some b):=
 ⟨rfl,rfl,rfl,by simp,λk _ a=>Array.getElem?_setIfInBounds_ne (λe=>a (by rw[e]))⟩
theorem xqa(j:HOk B w g h)(hB:B<=w.heap.size){id:Nat}{l l2 l':List (AV × AV)}(i:h[id]? =some (.mapo l)){es':Array MapEntry}{k':Nat}(r:l2.Perm l')(o:MapRel (ctx w g h) l2 es'.toList)(n:(es'.toList.map (·.key)).Nodup):
  Good B w g h { w with heap:=w.heap.setIfInBounds (g.β id) (.map es' k') } g (h.set id (.mapo l')):=by
 have f:=JN w (g.β id) (.map es' k')
 have d:=Le.turn (g':=g) (o':= .mapo l') i rfl f (λ_ _=>rfl) (λ_ _=>rfl) (λb a=> .inl a) (λ_=>⟨rfl,λs p=>by cases p⟩)
 obtain⟨m,es,k,v,q,u,t,_⟩:=j.ok id _ i
 have c:g.β id<w.heap.size:=(qM.1 q).1
 refine⟨j.turn i f (λ_ _=>rfl) (λ_ _=>rfl) (λb a=> .inl a) d ⟨m,es',k',l2,?_,r,MapRel.le d _ _ o,n⟩,d,?_,by simpa using hB⟩
 ·show({ w with heap:=w.heap.setIfInBounds (g.β id) (.map es' k') }:World).heap[g.β id]? =_
  simp[c]
 ·exact(Below.refl B w).grown f hB λk e=>by injection e with e;subst e;exact m
theorem Yh(f:HOk B w g h)(hB:B<=w.heap.size)(o:Obj){ks:List AV}{us:List Value}(c:ARs (ctx w g h) ks us):Good B w g h (w.alloc o) g (h++[.raw w.heap.size o ks us]):=by
 have a:∀D,D<=w.heap.size->Below D w (w.alloc o):=λD i=>(Below.refl D w).alloc i _
 have e:∀b,(Ob.raw w.heap.size o ks us).blk g h.length=some b->w.heap.size<=b:=λb a=>by
  simp[Ob.blk] at a;omega
 have d:=Le.more (g:=g) (g':=g) (o:= .raw w.heap.size o ks us) (a _ (zp _)) (λ_ _=>rfl) (λ_ _=>rfl) e
 exact⟨f.more (a _ (zp _)) (λ_ _=>rfl) (λ_ _=>rfl) e d ⟨hB,heap_alloc_new w _,ARs.le d _ _ c⟩,d,a _ hB,by simp;omega⟩
theorem Qq(j:HOk B w g h)(hB:B<=w.heap.size){id l:Nat}{o:Obj}{ks:List AV}{us:List Value}(i:h[id]? =some (.raw l o ks us))(o':Obj):
  Good B w g h { w with heap:=w.heap.setIfInBounds l o' } g (h.set id (.raw l o' ks us)):=by
 have f:=JN w l o'
 have d:=Le.turn (g':=g) (o':= .raw l o' ks us) i rfl f (λ_ _=>rfl) (λ_ _=>rfl) (λb a=> .inl a) (λ_=>⟨rfl,λs n=>by cases n⟩)
 obtain⟨m,p,q⟩:=j.ok id _ i
 have c:l<w.heap.size:=(qM.1 p).1
 refine⟨j.turn i f (λ_ _=>rfl) (λ_ _=>rfl) (λb a=> .inl a) d ⟨m,?_,ARs.le d _ _ q⟩,d,?_,by simpa using hB⟩
 ·show({ w with heap:=w.heap.setIfInBounds l o' }:World).heap[l]? =_
  simp[c]
 ·exact(Below.refl B w).grown f hB λk e=>by injection e with e;subst e;exact m
end
