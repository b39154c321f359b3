/-
  Joined.
-/
import Derived.Test.YtfmldcilgbbimaaGreatK19
import Derived.Test.YtfmldcilgbbimaaGreatK21
import Derived.Test.YtfmldcilgbbimaaGreatK23
import Derived.Test.YtfmldcilgbbimaaGreatK10
import Derived.Test.YtfmldcilgbbimaaGreatK24
import Derived.OrdersIn
import Derived.RangeFuncCalls
import Derived.RangeFuncNested
import Derived.RangeFuncLeaves
set_option linter.unusedSimpArgs false
set_option linter.unusedVariables false
namespace Go.Proofs.YtfmldcilgbbimaaGreat.Ax
open Go
structure FlF (D:List Ev) (t:TellS):Prop where
 flags:∀x∈t.flags,∃e∈D,e.id=x.id
 opn:∀f os,t.open_=some (f,os)->f∈D
section
variable {D:List Ev} {t:TellS} {s:Setup}
theorem FlF.flag (h:FlF D t) {e:Ev} (b:e∈D) (k:Int):FlF D (xE t e k):=⟨λx a=>by
 rcases List.mem_append.1 (show x∈t.flags++[⟨e.id,k⟩] from a) with a | a
 ·exact h.flags x a
 ·rw[List.mem_singleton] at a;subst a;exact ⟨e,b,rfl⟩,h.opn⟩
theorem FlF.close (h:FlF D t) (f:Ev) (os:List Ev) (at_:Int):FlF D (vF s t f os at_):=⟨h.flags,λ_ _ q=>by cases q⟩
theorem FlF.late (h:FlF D t) (m:Int):FlF D (qF s t m):=by
 unfold qF
 split
 ·exact h
 ·rename_i e os a
  split
  ·exact (h.flag (h.opn e os a) 1).close e os _
  ·exact h
theorem FlF.next (h:FlF D t) {e:Ev} (b:e∈D):FlF D (Zr s t e):=by
 have a:=h.late (s:=s) e.at_
 unfold Zr
 split
 ·split
  ·exact ⟨a.flags,λf os q=>by injection q with q;injection q with q _;rw[<-q];exact b⟩
  ·rename_i f os c
   have d:=(a.flag (a.opn f os c) 2).close (s:=s) f os e.at_
   exact ⟨d.flags,λf os q=>by injection q with q;injection q with q _;rw[<-q];exact b⟩
 ·split
  ·exact a.flag b 3
  ·rename_i f os c
   split
   ·exact a.close f os _
   ·exact ⟨a.flags,λi g q=>by injection q with q;injection q with q _;rw[<-q];exact a.opn f os c⟩
theorem FlF.go {w:Int}:∀(l:List Ev) {t:TellS},FlF D t->(∀e∈l,e∈D)->FlF D (l.foldl (yr s w) t)
 | [],t,h,_=>h
 | e::l,t,h,a=>by
   rw[List.foldl_cons]
   refine FlF.go l ?_ λx b=>a x (.tail _ b)
   unfold yr
   split
   ·exact h.next (a e (.head _))
   ·exact h
theorem jJa {l:List Ev} {w:Int}:∀x∈(zR s l w).2,∃e∈l,e.id=x.id:=by
 unfold zR
 split
 ·have h0:FlF l ⟨none,[],[]⟩:=⟨λx a=>(by cases a),λ_ _ q=>(by cases q)⟩
  have c:FlF l (goP s w (zC l)):=FlF.go _ h0 λe b=>QM.1 b
  exact (c.late (s:=s) 32054400).flags
 ·intro x a;cases a
end
end Go.Proofs.YtfmldcilgbbimaaGreat.Ax
namespace Go.Proofs.YtfmldcilgbbimaaGreat.Ax
open Go Go.Proofs
def inG (s:Setup) (n:Int) (g:Seg):Bool:=decide (n - (s.unit+s.cap)<=g.from_) && decide (g.to_<=n+(s.unit+s.cap))
def Qya (s:Setup) (n:Int) (l:List Seg):List Seg:=l.filter λg=> !inG s n g
def Qza (q:Int->Bool) (l:List Flg):List Flg:=l.filter λf=> !q f.id
def InO (s:Setup) (p:Ev->Prop) (n:Int) (t:TellS):Prop:=∀f os,t.open_=some (f,os)->p f/\n - s.cap<=f.at_/\f.at_<=n
structure Nr (s:Setup) (p:Ev->Prop) (n:Int) (q:Int->Bool) (a b:TellS):Prop where
 seg:Qya s n a.segs=Qya s n b.segs
 flg:Qza q a.flags=Qza q b.flags
 opn:a.open_=b.open_∨(InO s p n a/\InO s p n b)
section
variable {s:Setup} {p:Ev->Prop} {n:Int} {q:Int->Bool} {a b t:TellS}
end
def vH (s t:Spn):Spn:=⟨max s.from_ t.from_,min s.to_ t.to_⟩
def vc (a b:List Spn):List Spn:=a.flatMap λs=>b.map (vH s)
def QV (a b:List Spn):List Spn:=zw (vc (zw a) (zw b))
theorem zAa (a b:List Spn) (s:Spn):vc (a++[s]) b=vc a b++b.map (vH s):=by simp[vc]
theorem K3 (a b:List Spn):(vc a b).length=a.length*b.length:=by
 induction a with
 | nil=>simp[vc]
 | cons s a c=>simp only[vc,List.flatMap_cons,List.length_append,List.length_map,List.length_cons,Nat.succ_mul] at *; omega
theorem jMa {a b:List Spn} {t:Int}:Cov (vc a b) t↔Cov a t/\Cov b t:=by
 unfold Cov vc
 constructor
 ·rintro ⟨s,d,g,f⟩
  obtain ⟨x,e,d⟩:=List.mem_flatMap.1 d
  obtain ⟨y,c,rfl⟩:=List.mem_map.1 d
  simp only[vH] at g f
  exact ⟨⟨x,e,by omega,by omega⟩,y,c,by omega,by omega⟩
 ·rintro ⟨⟨x,e,g,f⟩,y,c,i,h⟩
  exact ⟨vH x y,List.mem_flatMap.2 ⟨x,e,List.mem_map.2 ⟨y,c,rfl⟩⟩,by simp only[vH];omega,by simp only[vH];omega⟩
theorem Qx {a b:List Spn} {t:Int}:Cov (QV a b) t↔(0<=t/\t<32054400)/\Cov a t/\Cov b t:=by
 unfold QV
 rw[jN,jMa,jN,jN]
 constructor
 ·rintro ⟨d,c,⟨_,_,f⟩,_,_,e⟩;exact ⟨⟨d,c⟩,f,e⟩
 ·rintro ⟨⟨d,c⟩,f,e⟩;exact ⟨d,c,⟨d,c,f⟩,d,c,e⟩
theorem yM:∀(c:Spn) (r:List Spn) (s:Spn),s∈jG c r->s.from_=c.from_∨∃x∈r,s.from_=x.from_
 | c,[],s,h=>by
   rw[jG,List.mem_singleton] at h
   subst h;exact .inl rfl
 | c,x::r,s,h=>by
   rw[jG] at h
   split at h
   ·rcases yM _ r s h with h | ⟨y,a,h⟩
    ·exact .inl h
    ·exact .inr ⟨y,.tail _ a,h⟩
   ·rcases List.mem_cons.1 h with rfl | h
    ·exact .inl rfl
    ·rcases yM x r s h with h | ⟨y,a,h⟩
     ·exact .inr ⟨x,.head _,h⟩
     ·exact .inr ⟨y,.tail _ a,h⟩
theorem ZJ {l:List Spn} {s:Spn} (h:s∈zw l):∃x∈qG l,s.from_=x.from_:=by
 unfold zw at h
 have b:∀x∈Qs (qG l),x∈qG l:=λx a=>(xx _).mem_iff.1 a
 cases d:Qs (qG l) with
 | nil=>rw[d] at h;cases h
 | cons c r=>
   rw[d] at h b
   rcases yM c r s h with h | ⟨x,a,h⟩
   ·exact ⟨c,b c (.head _),h⟩
   ·exact ⟨x,b x (.tail _ a),h⟩
theorem Zf:∀ {a b:List Int},a.Nodup->(∀x∈a,x∈b)->a.length<=b.length
 | [],_,_,_=>by simp
 | x::a,b,c,g=>by
   rw[List.nodup_cons] at c
   have d:=g x (.head _)
   have:=Zf (a:=a) (b:=b.erase x) c.2 λy f=>(List.mem_erase_of_ne (λe=>c.1 (by rw[<-e];exact f))).2 (g y (.tail _ f))
   rw[List.length_erase_of_mem d] at this
   have:0<b.length:=List.length_pos_of_mem d
   rw[List.length_cons];omega
theorem PlainS.froms {l:List Spn} (h:PlainS l):(l.map (·.from_)).Nodup:=by
 induction l with
 | nil=>simp
 | cons s l a=>
   rw[List.map_cons,List.nodup_cons]
   refine ⟨λb=>?_,a h.tail⟩
   obtain ⟨x,c,e⟩:=List.mem_map.1 b
   have f:=(List.pairwise_cons.1 h.gap).1 x c
   have d:=h.pos s (.head _)
   omega
theorem XL (a b:List Spn):(QV a b).length<=(zw a).length+(zw b).length:=by
 have k:=(j9 (vc (zw a) (zw b))).froms
 have c:((QV a b).map (·.from_)).length<=((zw a).map (·.from_)++(zw b).map (·.from_)).length:=by
  refine Zf k λx i=>?_
  obtain ⟨s,c,rfl⟩:=List.mem_map.1 i
  obtain ⟨y,f,e⟩:=ZJ c
  unfold qG at f
  obtain ⟨z,d,rfl⟩:=List.mem_map.1 (List.mem_filter.1 f).1
  obtain ⟨p,h,d⟩:=List.mem_flatMap.1 d
  obtain ⟨q,g,rfl⟩:=List.mem_map.1 d
  have m:=(jI p h).1
  have l:=(jI q g).1
  rw[List.mem_append]
  rw[e]
  simp only[jj,vH]
  by_cases j:p.from_<=q.from_
  ·exact .inr (List.mem_map.2 ⟨q,g,by omega⟩)
  ·exact .inl (List.mem_map.2 ⟨p,h,by omega⟩)
 simpa using c
def zQ:Int->List Spn->List Spn
 | k,[]=>if k<32054400 then [⟨k,32054400⟩] else []
 | k,s::r=>(if s.from_>k then [⟨k,s.from_⟩] else [])++zQ s.to_ r
def qf (a b:List Spn):List Spn:=QV a (zQ 0 (zw b))
theorem XM:∀ {l:List Spn} {k t:Int},PlainS l->(∀s∈l,k<=s.from_)->(∀s∈l,s.to_<=32054400)->(Cov (zQ k l) t↔(k<=t/\t<32054400)/\¬ Cov l t)
 | [],k,t,_,_,_=>by
   unfold zQ
   split
   ·simp[Cov]
   ·simp[Cov];omega
 | s::r,k,t,b,i,e=>by
   have n:=i s (.head _)
   have j:=b.pos s (.head _)
   have o:=e s (.head _)
   have g:=XM (l:=r) (k:=s.to_) (t:=t) b.tail (λx d=>by have:=(List.pairwise_cons.1 b.gap).1 x d;omega) (λx d=>e x (.tail _ d))
   have c:Cov r t->s.to_<t:=b.above
   rw[zQ,wea,g,qt]
   split
   ·simp only[Cov,List.mem_singleton,exists_eq_left]
    constructor
    ·rintro (h | ⟨h,a⟩)
     ·refine ⟨by omega,?_⟩
      rintro (q | q)
      ·omega
      ·have:=c q;omega
     ·exact ⟨by omega,λq=>by rcases q with q | q;omega;exact a q⟩
    ·rintro ⟨h,a⟩
     by_cases m:t<s.from_
     ·exact .inl (by omega)
     ·refine .inr ⟨⟨?_,h.2⟩,λq=>a (.inr q)⟩
      apply Classical.byContradiction
      intro f
      exact a (.inl (by omega))
   ·simp only[Cov,List.not_mem_nil,false_and,exists_false,false_or]
    constructor
    ·rintro ⟨h,a⟩
     exact ⟨by omega,λq=>by rcases q with q | q;omega;exact a q⟩
    ·rintro ⟨h,a⟩
     refine ⟨⟨?_,h.2⟩,λq=>a (.inr q)⟩
     apply Classical.byContradiction
     intro f
     exact a (.inl (by omega))
theorem ZK:∀(l:List Spn) (k:Int),(zQ k l).length<=l.length+1
 | [],k=>by unfold zQ;split<;>simp
 | s::r,k=>by
   have:=ZK r s.to_
   rw[zQ,List.length_append,List.length_cons]
   split<;>simp<;>omega
theorem ZL {a b:List Spn} {t:Int}:Cov (qf a b) t↔(0<=t/\t<32054400)/\Cov a t/\¬ Cov b t:=by
 unfold qf
 rw[Qx,XM (j9 b) (λs f=>(jI s f).1) (λs f=>(jI s f).2.2),jN]
 constructor
 ·rintro ⟨c,d,_,e⟩;exact ⟨c,d,λq=>e ⟨c.1,c.2,q⟩⟩
 ·rintro ⟨c,d,e⟩;exact ⟨c,d,c,λq=>e q.2.2⟩
theorem qK (a b:List Spn):(qf a b).length<=(zw a).length+(zw b).length+1:=by
 have e:=XL a (zQ 0 (zw b))
 have c:=zq (zQ 0 (zw b))
 have d:=ZK (zw b) 0
 unfold qf
 omega
def wZ (s:Spn) (n:Int):Spn:=⟨s.from_,min s.to_ (s.from_+min n 32054400)⟩
def w8:List Spn->Int->List Spn
 | [],_=>[]
 | s::r,n=>if n<=0 then [] else wZ s n::w8 r (n - ((wZ s n).to_ - s.from_))
theorem qW:∀(l:List Spn) (n:Int),(w8 l n).length<=l.length
 | [],_=>Nat.le_refl _
 | s::r,n=>by
   rw[w8]
   split
   ·simp
   ·have:=qW r (n - ((wZ s n).to_ - s.from_))
    simp only[List.length_cons];omega
def zE (l:List Spn) (n:Int):List Spn:=w8 (zw l) n
def ZM (l:List Spn) (n:Int):List Spn:=if n<=0 then [] else qf l (zE l (qq (zw l) - min n 32054400))
end Go.Proofs.YtfmldcilgbbimaaGreat.Ax
namespace Go.Proofs.YtfmldcilgbbimaaGreat.Ax
open Go Go.RowKit
theorem zBa {o:Option Ob} {st:Nat} {rows:List (List AV)} (a:KT o st=some rows):∃ty e,o=some (.row ty e rows st):=by
 unfold KT at a
 split at a
 ·split at a
  ·rename_i b
   injection a with a
   subst b a
   exact ⟨_,_,rfl⟩
  ·cases a
 ·cases a
def W3:AV->Option Nat
 | .tl id _=>some id
 | .vw a _ _ _=>W3 a
 | _=>none
theorem qqa {n:Nat} {L:List Ob}:∀(r:AV) {rows:List (List AV)},zo (List.replicate n .gone++L) r=some rows->∀id,W3 r=some id->n<=id
 | .tl id st,rows,h,i,b=>by
   injection b with b
   subst b
   apply Classical.byContradiction
   intro d
   have:(List.replicate n Ob.gone++L)[id]? =some .gone:=by
    rw[List.getElem?_append_left (by rw[List.length_replicate];omega),List.getElem?_replicate,if_pos (by omega)]
   rw[zO,this] at h
   cases h
 | .vw a e i k,rows,h,id,b=>by
   rw[xB] at h
   cases c:zo (List.replicate n .gone++L) a with
   | none=>rw[c] at h;cases h
   | some ys=>exact qqa a c id b
 | .v _,_,_,_,b | .sl _ _,_,_,_,b | .em,_,_,_,b | .ptr _ _,_,_,_,b | .ep _ _ _ _,_,_,_,b | .mp _,_,_,_,b | .ag _,_,_,_,b | .tup _,_,_,_,b | .fn _ _ _,_,_,_,b | .bad,_,_,_,b=>by cases b
section
variable {B:Nat} {w:World} {g:Gh} {h L:List Ob}
theorem kya {b:Nat} (k:kept g h b):kept g (h++L) b:=by
 obtain ⟨i,o,c,a⟩:=k
 exact ⟨i,o,zb c,a⟩
theorem XN (N:HOk B w g (h++L)):∀(r:AV) {A:Addr} {n k:Nat} {rows:List (List AV)} {e:Nat},AR (ctx w g (h++L)) r (.slice (some A) n k)->zo (h++L) r=some rows->eOf (h++L) r=some e->0<e->rows≠[]->(∀id,W3 r=some id->h.length<=id)->¬ kept g h A.block
 | .sl t xs,A,n,k,rows,e,l,b,f,h0,j,d=>by
   obtain ⟨Q,k',y,O,G⟩:=l
   injection y with y s H
   subst y
   injection b with b
   subst b
   injection f with f
   subst f
   cases xs with
   | nil=>exact absurd rfl j
   | cons x xs=>
     obtain ⟨⟨U,C⟩,_⟩:=G
     cases x with
     | nil=>simp at U;omega
     | cons c x=>
       obtain ⟨⟨J,u,F,P,_⟩,_⟩:=C
       injection F with F
       subst F
       intro R
       refine P.1 ?_
       have:(A.add (0*t)).block=A.block:=by unfold Addr.add;split<;>rfl
       rw[this]
       exact kya R
 | .tl id st,A,n,k,rows,e,l,b,f,h0,j,d=>by
   rw[zO] at b
   obtain ⟨ty,t,M⟩:=zBa b
   have C:=Zw l M
   rintro ⟨i,p,I,Y⟩
   have W:=jY I
   have hid:=d id rfl
   refine N.apart i id p _ A.block (by omega) (zb I) M Y ?_
   show (g.cur id).ownBlock=_
   rw[<-C];rfl
 | .vw a t i m,A,n,k,rows,e,l,b,f,h0,j,d=>by
   obtain ⟨A0,m0,cp,Q,k',y,O,G,s,H,_⟩:=l
   rw[xB] at b
   rw[ZF] at f
   cases D:zo (h++L) a with
   | none=>rw[D] at b;cases b
   | some ys=>
     rw[D] at b
     simp only[Option.bind_some] at b
     split at b
     ·rename_i z
      injection b with b
      cases o:eOf (h++L) a with
      | none=>rw[o] at f;cases f
      | some T=>
        have K:0<m:=by
         apply Classical.byContradiction
         intro K
         have:m=0:=by omega
         subst this
         rw[List.take_zero] at b
         exact j b.symm
        have E:ys≠[]:=by
         intro V
         subst V
         simp at z
         omega
        have S:T=t/\t=e:=by
         rw[o] at f
         simp only[Option.bind_some] at f
         split at f
         ·rename_i q;injection f with f;exact ⟨q,f⟩
         ·cases f
        injection s with s h6 h7
        subst h6
        obtain ⟨J,Z,X⟩:=H K
        subst Z
        have hn:=XN N a y D o (by omega) E d
        rw[X] at s
        injection s with s
        have:A.block=J.block:=by rw[s];unfold Addr.add;split<;>rfl
        rw[this]
        exact hn
     ·cases b
 | .v x,A,n,k,rows,e,l,b,f,h0,j,d=>by
   have l:Value.slice (some A) n k=x:=l
   subst l
   cases b
 | .em,_,_,_,_,_,_,b,_,_,j,_=>by injection b with b;exact absurd b.symm j
 | .ptr _ _,_,_,_,_,_,_,b,_,_,_,_ | .ep _ _ _ _,_,_,_,_,_,_,b,_,_,_,_ | .mp _,_,_,_,_,_,_,b,_,_,_,_ | .ag _,_,_,_,_,_,_,b,_,_,_,_ | .tup _,_,_,_,_,_,_,b,_,_,_,_ | .fn _ _ _,_,_,_,_,_,_,b,_,_,_,_ | .bad,_,_,_,_,_,_,b,_,_,_,_=>by cases b
theorem QW (K:HOk B w g (h++L)) {r:AV} {u:Value} {rows:List (List AV)} {e:Nat} (C:0<e) (J:AR (ctx w g (h++L)) r u) (v:SlOf (h++L) r e rows) (l:∀id,W3 r=some id->h.length<=id) (P:z6 h.length rows=true):AR (ctx w g h) (.sl e rows) u:=by
 obtain ⟨A,k,F,G,Q,R⟩:=xu K r J v.rows
 by_cases s:rows=[]
 ·subst s
  exact ⟨A,k,F,G,True.intro⟩
 have m:=v.ee s
 have q:=Q e m
 refine ⟨A,k,F,G,?_⟩
 have M:∃a0,A=some a0:=by
  cases rows with
  | nil=>exact absurd rfl s
  | cons x xs=>
    have b:=q.len x (by simp)
    cases x with
    | nil=>simp at b;omega
    | cons c x=>
      obtain ⟨I,D,p,_⟩:=q.cell 0 0 (c::x) c rfl rfl
      exact ⟨I,p⟩
 obtain ⟨a0,rfl⟩:=M
 subst F
 have t:=XN K r J v.rows m C s l
 have d:=xW w g h L
 have cells:∀(i:Nat) (x:List AV),rows[i]? =some x->zP h.length x=true->∀(y:List AV) (k0:Nat),(∀j a,y[j]? =some a->x[k0+j]? =some a)->zP h.length y=true->ACells (ctx w g h) (some a0) (i*e+k0) y:=by
  intro i x o _ y
  induction y with
  | nil=>intro _ _ _;trivial
  | cons c y E=>
    intro k0 n b
    have b:c.lt h.length=true/\zP h.length y=true:=by simpa [zP] using b
    have H:=n 0 c rfl
    rw[Nat.add_zero] at H
    obtain ⟨I,D,p,O,N⟩:=q.cell i k0 x c o H
    injection p with p
    subst p
    refine ⟨⟨a0,D,rfl,⟨?_,O⟩,AR.less d c D b.1 N⟩,?_⟩
    ·have:(a0.add (i*e+k0)).block=a0.block:=by unfold Addr.add;split<;>rfl
     rw[this]
     exact t
    ·have:=E (k0+1) (λj a f=>by
      have:=n (j+1) a f
      rw[show k0+(j+1)=k0+1+j by omega] at this
      exact this) b.2
     rw[show i*e+k0+1=i*e+(k0+1) by omega]
     exact this
 have all:∀(ys:List (List AV)) (i:Nat),(∀j x,ys[j]? =some x->rows[i+j]? =some x)->z6 h.length ys=true->ARows (ctx w g h) (some a0) e i ys:=by
  intro ys
  induction ys with
  | nil=>intro _ _ _;trivial
  | cons x ys E=>
    intro i n b
    have b:zP h.length x=true/\z6 h.length ys=true:=by simpa [z6] using b
    have o:=n 0 x rfl
    rw[Nat.add_zero] at o
    refine ⟨⟨q.len x (List.mem_of_getElem? o),?_⟩,E (i+1) (λj z f=>by
     have:=n (j+1) z f
     rw[show i+(j+1)=i+1+j by omega] at this
     exact this) b.2⟩
    have:=cells i x o b.1 x 0 (λj a f=>by rw[Nat.zero_add];exact f) b.1
    simpa using this
 exact all rows 0 (λj x f=>by rw[Nat.zero_add];exact f) P
end
theorem New.root {h L:List Ob} {e:Nat} {x:AV} {rows:List (List AV)} (k:New h e x rows L):∀id,W3 x=some id->h.length<=id:=
 qqa (L:=L) x (k (List.replicate h.length .gone) (by simp)).rows
variable {P:Program} {f:FuncId} {ar:List AV} {h:List Ob}
theorem xy {e:Nat} {rows:List (List AV)} (n:0<e) (o:z6 h.length rows=true) (c:ACalls P f ar h λr h'=>∃L,h'=h++L/\NoRes L/\New h e r rows L):ACalls P f ar h λr h'=>r= .sl e rows/\h'=h:=by
 refine ⟨c.1,⟨_,_,⟨rfl,rfl⟩,.refl⟩,λφ j B w g vs l hB b=>?_⟩
 refine (c.2.2 φ j B w g vs l hB b).mono λq w' ⟨v,r,h',g',p,⟨L,m,_,k⟩,_,d,i⟩=>?_
 subst m
 rw[q8 j] at d i
 have a:(fill φ h).length=h.length:=qc
 refine ⟨v,_,h,g',p,⟨rfl,rfl⟩,.refl,d.drop rfl (by have:=l.ids;exact this),?_⟩
 refine QW d.ok n i (k _ a) (λid hid=>by rw[a];exact k.root id hid) (by rw[a];exact o)
theorem W4 {e d:Nat} {rows b:List (List AV)} (A:0<e) (t:0<d) (C:z6 h.length rows=true) (l:z6 h.length b=true) (c:ACalls P f ar h λr h'=>∃L y z,h'=h++L/\NoRes L/\r= .tup [y,z]/\New h e y rows L/\New h d z b L):ACalls P f ar h λr h'=>r= .tup [.sl e rows,.sl d b]/\h'=h:=by
 refine ⟨c.1,⟨_,_,⟨rfl,rfl⟩,.refl⟩,λφ n B w g vs o hB i=>?_⟩
 refine (c.2.2 φ n B w g vs o hB i).mono λG w' ⟨v,r,h',g',E,⟨L,y,z,p,_,D,n1,n2⟩,_,j,m⟩=>?_
 subst p D
 rw[q8 n] at j m
 have a:(fill φ h).length=h.length:=qc
 obtain ⟨us,rfl,s,H,F,a1,u,q,x,a2,k⟩:=m
 have k:q=[]:=k
 subst k x
 refine ⟨_,_,h,g',E,⟨rfl,rfl⟩,.refl,j.drop rfl (by have:=o.ids;exact this),us,rfl,?_⟩
 rw[F]
 exact ⟨s,_,rfl,QW j.ok A a1 (n1 _ a) (λid hid=>by rw[a];exact n1.root id hid) (by rw[a];exact C),u,_,rfl,QW j.ok t a2 (n2 _ a) (λid hid=>by rw[a];exact n2.root id hid) (by rw[a];exact l),rfl⟩
def WeakV (r a:AV):Prop:=∀(c:Ctx) (v:Value),AR c r v->AR c a v
theorem WeakV.refl (r:AV):WeakV r r:=λ_ _ h=>h
theorem WeakV.nil (e:Nat):WeakV (.v (.slice none 0 0)) (.sl e []):=λ_ v h=>by
 have h:v= .slice none 0 0:=h
 subst h
 exact ⟨none,0,rfl,Nat.le_refl _,True.intro⟩
theorem WeakV.two {a d b f:AV} (k:WeakV a d) (g:WeakV b f):WeakV (.tup [a,b]) (.tup [d,f]):=λc v ⟨vs,e,x,r,l,a1,y,i,h,a2,j⟩=>⟨vs,e,x,r,l,k c x a1,y,i,h,g c y a2,j⟩
theorem Jn {R e:AV->List Ob->Prop} (c:ACalls P f ar h R) (i:∀r h',R r h'->∃b,e b h'/\WeakV r b):ACalls P f ar h e:=by
 refine ⟨c.1,?_,λφ o B w g vs q hB a=>?_⟩
 ·obtain ⟨r,h',t,k⟩:=c.2.1
  obtain ⟨b,d,_⟩:=i r h' t
  exact ⟨b,h',d,k⟩
 ·refine (c.2.2 φ o B w g vs q hB a).mono λu w' ⟨v,r,h',g',s,m,p,j,l⟩=>?_
  obtain ⟨b,d,n⟩:=i r h' m
  exact ⟨v,b,h',g',s,d,p,j,n _ _ l⟩
theorem ZN {e:Nat} {rows:List (List AV)} (c:ACalls P f ar h λr h'=>(r= .sl e rows∨r= .v (.slice none 0 0)/\rows=[])/\h'=h):ACalls P f ar h λr h'=>r= .sl e rows/\h'=h:=
 Jn c λr h' ⟨q,a⟩=>by
  rcases q with rfl | ⟨rfl,rfl⟩
  ·exact ⟨_,⟨rfl,a⟩,.refl _⟩
  ·exact ⟨_,⟨rfl,a⟩,.nil e⟩
theorem Qy {rs:List ResultVar} {T:Env} {h0 h':List Ob} {ty e:Nat} {x:AV} {rows:List (List AV)} (b:JC P T h' rs=some x) (a:Pre h0 h') (d:OwnS h0 h' ty e x rows):q3a P rs h0 (λr h''=>∃L,h''=h0++L/\NoRes L/\New h0 e r rows L) .ret T h':=by
 obtain ⟨L,rfl,c⟩:=a
 exact ⟨x,b,.inl ⟨L,rfl,c,d.new (Nat.le_refl _)⟩⟩
end Go.Proofs.YtfmldcilgbbimaaGreat.Ax
namespace Go.Proofs.YtfmldcilgbbimaaGreat.Ax
open Go Go.Proofs
set_option maxRecDepth 100000
def spv (l:List Spn):AV:= .sl 2 (l.map zD)
theorem qx {h:List Ob} (l:List Spn):SlOf h (spv l) 2 (l.map zD):=⟨rfl,λ_=>rfl⟩
theorem kza {h:List Ob} (l:List Spn):zo h (spv l)=some (l.map zD):=rfl
theorem QAa {h:List Ob} (l:List Spn):eOf h (spv l)=some 2:=rfl
theorem wha (l:List Spn):AV.one (spv l)=true:=rfl
theorem jNa (l:List Spn):AV.cells (spv l)=some [spv l]:=rfl
theorem w9 {n:Nat}:∀l:List Spn,z6 n (l.map zD)=true
 | []=>rfl
 | s::l=>by
   rw[List.map_cons,z6,w9 l];rfl
theorem yN {n:Nat} (l:List Spn):(spv l).lt n=true:=w9 l
attribute [go_sem] kza QAa wha jNa
theorem yO (h:List Ob) (x:AV) (l:List Spn) (a:SlOf h x 2 (l.map zD)) (b:l.length<1099511627776):
  ACalls Tryz.prog 65 [x] h λr h'=>r=spv (zw l)/\h'=h:=xy (by decide) (w9 _) (c65 h x l a b)
theorem yb {l:List Spn} {i:Nat} (h:i<l.length):(l.map zD)[i]? =some (zD l[i]):=by rw[List.getElem?_map,List.getElem?_eq_getElem h];rfl
theorem kAa {h:List Ob} {i id ty f e st:Nat} {d:List AV} {rows:List (List AV)} (b:h[i]? =some (.box ty d)) (c:h[id]? =some (.row f e rows st)) (M:List Ob) (o:Ob):((h++M).set id o)[i]? =some (.box ty d):=by
 have a:id≠i:=λq=>by rw[q,b] at c;cases c
 rw[List.getElem?_set_ne a]
 exact zb b
theorem y3a (h:List Ob) (x y:AV) (a b:List Spn) (hx:SlOf h x 2 (a.map zD)) (hy:SlOf h y 2 (b.map zD)) (ha:a.length<1048576) (hb:b.length<1048576):
  ACalls Tryz.prog 174 [x,y] h λr h'=>r=spv (QV a b)/\h'=h:=by
 refine zf Tryz.f174 [.tmp 4] 42 rfl rfl rfl rfl rfl rfl (by decide) (⟨_,_,⟨rfl,rfl⟩,.refl⟩) λB=>?_
 simp only[go_sem]
 refine zd (yO _ x a hx (by omega)) ?_
 rintro _ J ⟨rfl,rfl⟩
 obtain ⟨u,hu⟩:∃u,u=zw a:=⟨_,rfl⟩
 obtain ⟨v,W⟩:∃v,v=zw b:=⟨_,rfl⟩
 have κ:u.length<1048576:=by have:=zq a;rw[hu];omega
 have θ:v.length<1048576:=by have:=zq b;rw[W];omega
 rw[<-hu]
 have hand:QV a b=zw (vc u v):=by rw[hu,W];rfl
 rw[hand]
 simp only[go_sem,List.length_map]
 refine zk (by decide) (λm T h'=>∃i:Nat,i<=u.length/\Pre J h'/\OwnS J h' 134 2 (T 5) ((vc (u.take i) v).map zD)/\T 1=y/\T 11=spv u/\T 12=i64 u.length/\T 13=i64 i/\m=u.length - i) u.length
  ⟨0,by omega,Pre.refl,.inl ⟨by simp only[go_sem],rfl⟩,by simp only[go_sem],by simp only[go_sem],by (simp only[go_sem]<;>rfl),by (simp only[go_sem]<;>rfl),rfl⟩ ?_
 rintro m T h' ⟨i,hi,n,p,t1,g,f,c,rfl⟩
 simp only[go_sem,f,c]
 refine ways (λe=>?_) (λe=>?_)
 ·have R:=dlt e
  have C:=yb R
  have β:(i:Int)<u.length:=by omega
  have s:=zAa (u.take i) v u[i]
  rw[List.take_append_getElem R] at s
  have t:(vc (u.take i) v).length<=1048576*1048576:=by
   rw[K3,List.length_take]
   exact Nat.mul_le_mul (by omega) (by omega)
  obtain ⟨z,hz⟩:∃z,z=u[i]:=⟨_,rfl⟩
  rw[<-hz] at C s
  obtain ⟨G,X⟩:∃G,G=vc (u.take i) v:=⟨_,rfl⟩
  rw[<-X] at p s t
  simp only[go_sem,t1,g,c,C,β,List.length_map,Int.toNat_natCast,Int.natCast_nonneg]
  refine zd (yO _ y b ((n.app (zj rfl)).sl hy) (by omega)) ?_
  rintro _ h6 ⟨rfl,rfl⟩
  rw[<-W]
  simp only[go_sem,List.length_map]
  obtain ⟨I,o⟩:∃I,I=h'++[Ob.box 134 (zD z)]:=⟨_,rfl⟩
  rw[show h'++[Ob.box 134 [i64 z.from_,i64 z.to_]]=I from o.symm]
  have P:I[h'.length]? =some (.box 134 (zD z)):=by rw[o];exact zm rfl
  have γ:=n.len
  have U:Pre J I:=by rw[o];exact n.app (zj rfl)
  have Q:OwnS J I 134 2 (T 5) (G.map zD):=by rw[o];exact p.app _
  refine zk (by decide) (λm l H=>∃j:Nat,j<=v.length/\Pre J H/\OwnS J H 134 2 (l 5) ((G++(v.take j).map (vH z)).map zD)/\H[h'.length]? =some (.box 134 (zD z))/\l 1=y/\l 7= .ptr h'.length 0/\l 11=spv u/\l 12=i64 u.length/\l 13=i64 i/\l 18=spv v/\l 19=i64 v.length/\l 20=i64 j/\m=v.length - j) v.length
   ⟨0,by omega,U,by (simp only[go_sem];simpa using Q),P,by simp only[go_sem,t1],by simp only[go_sem],by simp only[go_sem,g],by simp only[go_sem,f],by simp only[go_sem,c],by simp only[go_sem],by (simp only[go_sem]<;>rfl),by (simp only[go_sem]<;>rfl),rfl⟩ ?_
  clear n p U Q t1 g f c P
  rintro m l H ⟨j,hj,n,p,N,t1,t7,g,f,c,O,E,D,rfl⟩
  simp only[go_sem,E,D]
  refine ways (λe=>?_) (λe=>?_)
  ·have w:=dlt e
   have d:=yb w
   have A:(j:Int)<v.length:=by omega
   have k:(v.take (j+1)).map (vH z)=(v.take j).map (vH z)++[vH z v[j]]:=by rw[<-List.take_append_getElem w,List.map_append];rfl
   obtain ⟨q,hq⟩:∃q,q=v[j]:=⟨_,rfl⟩
   rw[<-hq] at d k
   have hA:List.length (zD (vH z q))=2:=rfl
   have S:∀M,(H++M)[h'.length]? =some (.box 134 (zD z)):=λM=>zb N
   have F:(G.length+min j v.length+1)*17<=140737488355328:=by omega
   rcases p with ⟨t5,K⟩ | ⟨id,st,u1,t5,u3⟩
   ·simp only[go_sem,t5,t7,O,D,S,d,A,List.length_map,Int.toNat_natCast,Int.natCast_nonneg,wV,wU]
    refine ⟨v.length - (j+1),by omega,j+1,by omega,n.app (zg rfl (zg rfl (zj rfl))),.inr ⟨_,_,by have:=n.len;omega,rfl,?_⟩,t1,g,f,c,E,zy (by omega) rfl,rfl⟩
    rw[k, <-List.append_assoc,List.map_append,K,zl rfl]
    rfl
   ·have hg:∀M,(H++M)[id]? =some (.row 134 2 ((G++(v.take j).map (vH z)).map zD) st):=λM=>zb u3
    simp only[go_sem,t5,t7,O,D,S,hg,F,d,A,List.length_map,List.length_take,Int.toNat_natCast,Int.natCast_nonneg,wV,wU]
    refine ⟨v.length - (j+1),by omega,j+1,by omega,(n.app (zg rfl (zj rfl))).set u1 rfl,.inr ⟨id,st+1,u1,rfl,?_⟩,kAa N u3 _ _,t1,g,f,c,E,zy (by omega) rfl,rfl⟩
    rw[k, <-List.append_assoc,List.map_append (l₂:=[vH z q])]
    exact zh (hg _)
  ·have Y:=jd e
   have Z:j=v.length:=by omega
   subst Z
   rw[List.take_length, <-s] at p
   simp only[go_sem,c]
   exact ⟨u.length - (i+1),by omega,i+1,by omega,n,p,t1,g,f,zy (by omega) rfl,rfl⟩
 ·have Y:=jd e
  have V:i=u.length:=by omega
  subst V
  rw[List.take_length] at p
  have t:(vc u v).length<=1048575*1048575:=by
   rw[K3]
   exact Nat.mul_le_mul (by omega) (by omega)
  simp only[go_sem]
  refine zd (yO _ _ (vc u v) p.rows (by omega)) ?_
  rintro _ h6 ⟨rfl,rfl⟩
  simp only[go_sem]
  obtain ⟨L,rfl,_⟩:=n
  exact ze (by simp only[go_sem]) (yN _)
set_option maxRecDepth 100000
theorem qra (h:List Ob) (x:AV) (l:List Spn) (a:SlOf h x 2 (l.map zD)) (b:l.length<1048576):
  ACalls Tryz.prog 23 [x] h λr h'=>r=i64 (qq (zw l))/\h'=h:=c30 h x l a b
def xb (l:List Spn) (n size:Int):List Spn:=if n<0∨n>32054400 / size then [] else QV l [⟨n*size,(n+1)*size⟩]
theorem y4a (h:List Ob) (x:AV) (l:List Spn) (n size:Int) (i:SlOf h x 2 (l.map zD)) (m:l.length<1048576) (d:size=86400∨size=604800):
  ACalls Tryz.prog 171 [x,i64 n,i64 size] h λr h'=>(r=spv (xb l n size)∨r= .v (.slice none 0 0)/\xb l n size=[])/\h'=h:=by
 have e:IntKind.wrap .i64 (Int.tdiv 32054400 size)=32054400 / size:=by rcases d with rfl | rfl<;>rfl
 have h0:¬ size=0:=by omega
 have j:32054400 / size<=371:=by rcases d with rfl | rfl<;>decide
 have hex:∃r h',((r=spv (xb l n size)∨r=AV.v (.slice none 0 0)/\xb l n size=[])/\h'=h)/\ResK h h':=⟨_,_,⟨.inl rfl,rfl⟩,.refl⟩
 refine zf Tryz.f171 [.tmp 6] 26 rfl rfl rfl rfl rfl rfl (by decide) (hex) λB=>?_
 simp only[go_sem]
 cases b:decide (n<0)
 ·have f:¬ n<0:=of_decide_eq_false b
  cases c:decide (n>32054400 / size)
  ·have g:¬ n>32054400 / size:=of_decide_eq_false c
   have a:xb l n size=QV l [⟨n*size,(n+1)*size⟩]:=by unfold xb;rw[if_neg (by omega)]
   have s:n*size<=371*604800/\0<=n*size/\(n+1)*size<=372*604800/\0<=(n+1)*size:=by
    rcases d with rfl | rfl<;>omega
   have o:IntKind.wrap .i64 (n*size)=n*size:=zt (n:=n*size) (by unfold Fit;omega)
   have k:IntKind.wrap .i64 (n+1)=n+1:=zt (n:=n+1) (by unfold Fit;omega)
   have p:IntKind.wrap .i64 ((n+1)*size)=(n+1)*size:=zt (n:=(n+1)*size) (by unfold Fit;omega)
   simp only[go_sem,b,c,e,h0,zM,o,k,p]
   refine zd (y3a _ x _ l [⟨n*size,(n+1)*size⟩] (i.app _) (OwnS.rows (h0:=h) (ty:=134) (.inr ⟨_,_,Nat.le_refl _,rfl,by rw[zm rfl];rfl⟩)) m (by simp)) ?_
   rintro _ q ⟨rfl,rfl⟩
   simp only[go_sem]
   exact ⟨spv (xb l n size),by (simp only[go_sem];rw[a]),.inr ⟨h,_,rfl,rfl,yN _,.refl,.inl rfl,rfl⟩⟩
  ·have g:=of_decide_eq_true c
   have a:xb l n size=[]:=by unfold xb;rw[if_pos (by omega)]
   simp only[go_sem,b,c,e,h0,zM]
   exact ⟨_,by simp only[go_sem],.inl ⟨.inr ⟨rfl,a⟩,rfl⟩⟩
 ·have f:=of_decide_eq_true b
  have a:xb l n size=[]:=by unfold xb;rw[if_pos (by omega)]
  simp only[go_sem,b,e,h0,zM]
  exact ⟨_,by simp only[go_sem],.inl ⟨.inr ⟨rfl,a⟩,rfl⟩⟩
theorem yna (h:List Ob) (x:AV) (l:List Spn) (n size:Int) (a:SlOf h x 2 (l.map zD)) (b:l.length<1048576) (c:size=86400∨size=604800):
  ACalls Tryz.prog 171 [x,i64 n,i64 size] h λr h'=>r=spv (xb l n size)/\h'=h:=
 ZN ((y4a h x l n size a b c).mono λr h' ⟨q,e⟩=>⟨q.imp_right λq=>⟨q.1,by rw[q.2];rfl⟩,e⟩)
def qO (l:List Spn) (d:Int):List Spn:=xb l d 86400
def zZ (l:List Spn) (k:Int):List Spn:=xb l k 604800
theorem zCa (h:List Ob) (x:AV) (l:List Spn) (d:Int) (a:SlOf h x 2 (l.map zD)) (b:l.length<1048576):
  ACalls Tryz.prog 219 [x,i64 d] h λr h'=>r=spv (qO l d)/\h'=h:=by
 refine zf Tryz.f219 [.tmp 4] 8 rfl rfl rfl rfl rfl rfl (by decide) (⟨_,_,⟨rfl,rfl⟩,.refl⟩) λB=>?_
 simp only[go_sem]
 refine zd (yna h x l d 86400 a b (.inl rfl)) ?_
 rintro _ c ⟨rfl,rfl⟩
 simp only[go_sem]
 exact zc (by simp only[go_sem];rfl)
theorem qsa (h:List Ob) (x:AV) (l:List Spn) (k:Int) (a:SlOf h x 2 (l.map zD)) (b:l.length<1048576):
  ACalls Tryz.prog 103 [x,i64 k] h λr h'=>r=spv (zZ l k)/\h'=h:=by
 refine zf Tryz.f103 [.tmp 4] 8 rfl rfl rfl rfl rfl rfl (by decide) (⟨_,_,⟨rfl,rfl⟩,.refl⟩) λB=>?_
 simp only[go_sem]
 refine zd (yna h x l k 604800 a b (.inr rfl)) ?_
 rintro _ c ⟨rfl,rfl⟩
 simp only[go_sem]
 exact zc (by simp only[go_sem];rfl)
theorem wE (l:List Spn) (n size:Int):(xb l n size).length<=(zw l).length+1:=by
 unfold xb
 split
 ·simp
 ·have b:=XL l [⟨n*size,(n+1)*size⟩]
  have a:=zq [(⟨n*size,(n+1)*size⟩:Spn)]
  simp at a
  omega
def xz (n:Int):Int:=ofI n 86400
theorem QBa (n:Int):qX Tryz.prog 218 [i64 n] (i64 (xz n)):=λh=>by
 refine zf Tryz.f218 [.tmp 2] 5 rfl rfl rfl rfl rfl rfl (by decide) (⟨_,_,⟨rfl,rfl⟩,.refl⟩) λB=>?_
 simp only[go_sem]
 refine zd (c51 n 86400 (by decide) _) ?_
 rintro _ a ⟨rfl,rfl⟩
 simp only[go_sem]
 (first | refine zc ?_ | refine ze ?_ (by rfl))<;>(simp only[go_sem,xz]<;>try rfl)
def vI:List Spn->List Spn->Int->List Spn
 | o,[],_=>o
 | o,s::r,n=>if n<=0 then o else vI (o++[wZ s n]) r (n - ((wZ s n).to_ - s.from_))
theorem W5:∀(l o:List Spn) (n:Int),vI o l n=o++w8 l n
 | [],o,n=>by simp[vI,w8]
 | s::r,o,n=>by
   rw[vI,w8]
   split
   ·simp
   ·rw[W5 r];simp
theorem W6 {v o:List Spn} {i:Nat} {n:Int} (a:i<v.length):vI o (v.drop i) n=if n<=0 then o else vI (o++[wZ v[i] n]) (v.drop (i+1)) (n - ((wZ v[i] n).to_ - (v[i]).from_)):=by
 rw[List.drop_eq_getElem_cons a,vI]
theorem wia (h:List Ob) (x:AV) (l:List Spn) (n:Int) (V:SlOf h x 2 (l.map zD)) (hl:l.length<1048576) (Y:Fit n):
  ACalls Tryz.prog 169 [x,i64 n] h λr h'=>∃L,h'=h++L/\NoRes L/\New h 2 r ((zE l n).map zD) L:=by
 have hex:∃r h',(∃L,h'=h++L/\NoRes L/\New h 2 r ((zE l n).map zD) L)/\ResK h h':=
  ⟨.sl 2 _,_,⟨[],rfl,jF,λ_ _=>⟨rfl,λ_=>rfl⟩⟩,zT⟩
 refine zf Tryz.f169 [.tmp 4] 38 rfl rfl rfl rfl rfl rfl (by decide) (hex) λB=>?_
 simp only[go_sem]
 refine zd (yO _ x l V (by omega)) ?_
 rintro _ N ⟨rfl,rfl⟩
 have d:zE l n=vI [] ((zw l).drop 0) n:=by rw[W5];rfl
 have s:= @jI l
 rw[d]
 obtain ⟨v,G⟩:∃v,v=zw l:=⟨_,rfl⟩
 have P:v.length<1048576:=by have:=zq l;rw[G];omega
 rw[<-G] at s⊢
 obtain ⟨W,K⟩:∃W,W=vI [] (v.drop 0) n:=⟨_,rfl⟩
 rw[<-K]
 simp only[go_sem,List.length_map]
 refine zk (by decide) (λm T h'=>∃(i:Nat) (o:List Spn) (k:Int),i<=v.length/\o.length<=i/\Fit k/\vI o (v.drop i) k=W/\Pre N h'/\OwnS N h' 134 2 (T 4) (o.map zD)/\T 1=i64 k/\T 8=spv v/\T 9=i64 v.length/\T 10=i64 i/\m=v.length - i) v.length
  ⟨0,[],n,by omega,by simp,Y,K.symm,Pre.refl,.inl ⟨by simp only[go_sem],rfl⟩,by simp only[go_sem],by simp only[go_sem],by (simp only[go_sem]<;>rfl),by (simp only[go_sem]<;>rfl),rfl⟩ ?_
 rintro m T h' ⟨i,o,k,hi,X,w,a,u,D,t1,t8,t9,t10,rfl⟩
 simp only[go_sem,t9,t10]
 refine ways (λe=>?_) (λe=>?_)
 ·have f:=dlt e
  have b:=yb f
  have E:(i:Int)<v.length:=by omega
  have U:=s _ (List.getElem_mem f)
  rw[W6 f] at a
  obtain ⟨z,Q⟩:∃z,z=v[i]:=⟨_,rfl⟩
  rw[<-Q] at b a U
  simp only[go_sem,t1,t8,t10,b,E,List.length_map,Int.toNat_natCast,Int.natCast_nonneg]
  refine ways (λc=>?_) (λc=>?_)
  ·have c:k<=0:=of_decide_eq_true c
   rw[if_pos c] at a
   simp only[go_sem]
   subst a
   exact Qy (by simp only[go_sem]) (u.app (zj rfl)) (D.app _)
  ·have c:¬ k<=0:=of_decide_eq_false c
   rw[if_neg c] at a
   obtain ⟨y,C⟩:∃y,y=wZ z k:=⟨_,rfl⟩
   have p:y.from_=z.from_:=by rw[C];rfl
   have q:y.to_=min z.to_ (z.from_+min k 32054400):=by rw[C];rfl
   have H:IntKind.wrap .i64 (z.from_+min k 32054400)=z.from_+min k 32054400:=zt (n:=z.from_+min k 32054400) (by unfold Fit at w ⊢;omega)
   have O:IntKind.wrap .i64 (y.to_ - z.from_)=y.to_ - z.from_:=zt (n:=y.to_ - z.from_) (by unfold Fit at w ⊢;omega)
   have I:IntKind.wrap .i64 (k - (y.to_ - z.from_))=k - (y.to_ - z.from_):=zt (n:=k - (y.to_ - z.from_)) (by unfold Fit at w ⊢;omega)
   have t:Fit (k - (y.to_ - z.from_)):=by unfold Fit at w ⊢;omega
   rw[<-C] at a
   have Z:List.length (zD y)=2:=rfl
   have g:(o.length+1)*17<=140737488355328:=by omega
   rcases D with ⟨t4,j⟩ | ⟨id,st,F,t4,R⟩
   ·simp only[go_sem,t1,t4,t8,t10,List.length_map,wU,H, <-q,O,I]
    refine ⟨v.length - (i+1),by omega,i+1,o++[y],_,by omega,by simp;omega,t,a,u.app (zg rfl (zg rfl (zj rfl))),.inr ⟨_,_,by have:=u.len;omega,rfl,?_⟩,rfl,t9,zy (by omega) rfl,rfl⟩
    rw[List.map_append,j,zl rfl, <-p]
    rfl
   ·have J:∀M,(h'++M)[id]? =some (.row 134 2 (o.map zD) st):=λM=>zb R
    simp only[go_sem,t1,t4,t8,t10,J,g,List.length_map,wU,H, <-q,O,I]
    refine ⟨v.length - (i+1),by omega,i+1,o++[y],_,by omega,by simp;omega,t,a,(u.app (zg rfl (zj rfl))).set F rfl,.inr ⟨id,st+1,F,rfl,?_⟩,rfl,t9,zy (by omega) rfl,rfl⟩
    rw[List.map_append, <-p]
    exact zh (J _)
 ·have S:=jd e
  have A:i=v.length:=by omega
  subst A
  rw[List.drop_length,vI] at a
  subst a
  simp only[go_sem]
  exact Qy (by simp only[go_sem]) u D
theorem VT (h:List Ob) (x:AV) (l:List Spn) (n:Int) (a:SlOf h x 2 (l.map zD)) (c:l.length<1048576) (b:Fit n):
  ACalls Tryz.prog 169 [x,i64 n] h λr h'=>r=spv (zE l n)/\h'=h:=xy (by decide) (w9 _) (wia h x l n a c b)
end Go.Proofs.YtfmldcilgbbimaaGreat.Ax
namespace Go.Proofs.YtfmldcilgbbimaaGreat.Ax
open Go Go.RowKit
structure LIn (F:List (Nat × Ob)) (h0 h:List Ob) (i bty ty e:Nat) (rows:List (List AV)):Prop where
 pre:Pre h0 h
 le:h0.length<=i
 kept:∀z∈F,z.1≠i/\(∃t cs,z.2= .box t cs)/\h[z.1]? =some z.2
 at_:∃x,h[i]? =some (.box bty [x])/\OwnS h0 h ty e x rows
variable {F:List (Nat × Ob)} {h0 h:List Ob} {i bty ty e:Nat} {rows rows':List (List AV)}
theorem LIn.app (k:LIn F h0 h i bty ty e rows) {M:List Ob} (b:NoRes M):LIn F h0 (h++M) i bty ty e rows:=by
 obtain ⟨k1,k2,k3,x,k4,k5⟩:=k
 exact ⟨k1.app b,k2,λz a=>⟨(k3 z a).1,(k3 z a).2.1,zb (k3 z a).2.2⟩,x,zb k4,k5.app M⟩
theorem LIn.lt (k:LIn F h0 h i bty ty e rows):i<h.length:=by
 obtain ⟨x,k4,_⟩:=k.at_
 exact (List.getElem?_eq_some_iff.1 k4).1
theorem LIn.push_nil (k:LIn F h0 h i bty ty e rows) {M:List Ob} (b:NoRes M) {id:Nat} (hid:h.length<=id) (c:(h++M)[id]? =some (.row ty e rows' 0)):LIn F h0 ((h++M).set i (.box bty [.tl id 0])) i bty ty e rows':=by
 have d:=k.lt
 have f:=k.pre.len
 have k':=k.app b
 refine ⟨k'.pre.set k.le rfl,k.le,λz a=>⟨(k.kept z a).1,(k.kept z a).2.1,?_⟩,.tl id 0,?_,.inr ⟨id,0,by omega,rfl,?_⟩⟩
 ·rw[List.getElem?_set_ne (Ne.symm (k.kept z a).1)];exact (k'.kept z a).2.2
 ·rw[List.getElem?_set_self (by rw[List.length_append];omega)]
 ·rw[List.getElem?_set_ne (by omega)];exact c
theorem LIn.push_own (k:LIn F h0 h i bty ty e rows) {M:List Ob} (g:NoRes M) {id st:Nat} (hid:h0.length<=id) (a:h[id]? =some (.row ty e rows st)):LIn F h0 (((h++M).set id (.row ty e rows' (st+1))).set i (.box bty [.tl id (st+1)])) i bty ty e rows':=by
 have o:=k.lt
 have p:=k.pre.len
 have k':=k.app g
 obtain ⟨x,l,_⟩:=k.at_
 have d:id≠i:=λq=>by rw[q,l] at a;cases a
 have n:=(List.getElem?_eq_some_iff.1 a).1
 refine ⟨(k'.pre.set hid rfl).set k.le rfl,k.le,λz b=>⟨(k.kept z b).1,(k.kept z b).2.1,?_⟩,.tl id (st+1),?_,.inr ⟨id,st+1,hid,rfl,?_⟩⟩
 ·obtain ⟨m,⟨t,r,f⟩,j⟩:=k.kept z b
  have c:id≠z.1:=λq=>by rw[q,j,f] at a;cases a
  rw[List.getElem?_set_ne (Ne.symm m),List.getElem?_set_ne c]
  exact (k'.kept z b).2.2
 ·rw[List.getElem?_set_self (by rw[List.length_set,List.length_append];omega)]
 ·rw[List.getElem?_set_ne (Ne.symm d),List.getElem?_set_self (by rw[List.length_append];omega)]
theorem LIn.any (k:LIn F h0 h i bty ty e rows) (rows':List (List AV)):∃h',LIn F h0 h' i bty ty e rows'/\ResK h h':=by
 have q:=k.push_nil (M:=[.row ty e rows' 0]) (zj rfl) (id:=h.length) (Nat.le_refl _) (by rw[zm rfl];rfl)
 exact ⟨_,q,k.pre.resK q.pre⟩
theorem LIn.keep (k:LIn F h0 h i bty ty e rows) {z:Nat × Ob} (a:z∈F):h[z.1]? =some z.2:=(k.kept z a).2.2
end Go.Proofs.YtfmldcilgbbimaaGreat.Ax
namespace Go.Proofs.YtfmldcilgbbimaaGreat.Ax
open Go Go.Proofs
set_option maxRecDepth 100000
def ZO (o:List Int) (d:Int):List Int:=match o.getLast? with
 | none=>[d]
 | some x=>if x<d then o++[d] else o
theorem kBa (o:List Int) (d:Int):(ZO o d).length<=o.length+1:=by
 unfold ZO
 split
 ·simp
 ·split<;>simp
def Ku (o:List Int) (a:Int):Nat->List Int
 | 0=>o
 | k+1=>ZO (Ku o a k) (a+k)
theorem XO (o:List Int) (a:Int):∀k,(Ku o a k).length<=o.length+k
 | 0=>Nat.le_refl _
 | k+1=>by
   have c:=XO o a k
   have b:=kBa (Ku o a k) (a+k)
   rw[Ku];omega
def xi (o:List Int) (s:Spn):List Int:=Ku o (xz s.from_) (xz (s.to_ - 1) - xz s.from_+1).toNat
def zF (l:List Spn):List Int:=(zw l).foldl xi []
theorem kv (n:Int):0<=xz n/\xz n<371:=by
 unfold xz ofI qo
 have h0:0<=min (max n 0) 32054399/\min (max n 0) 32054399<=32054399:=by omega
 rw[Int.tdiv_eq_ediv_of_nonneg h0.1,zt (by unfold Fit;omega)]
 omega
theorem W7 (o:List Int) (s:Spn):(xi o s).length<=o.length+372:=by
 have c:=XO o (xz s.from_) (xz (s.to_ - 1) - xz s.from_+1).toNat
 have a:=kv s.from_
 have b:=kv (s.to_ - 1)
 unfold xi
 omega
theorem y5a (F:List (Nat × Ob)) (h0 h:List Ob) (i:Nat) (o:List Int) (d:Int) (k:LIn F h0 h i 27 3 1 (o.map zH)) (K:o.length<1099511627776):
  ACalls Tryz.prog 217 [i64 d,.ptr i 0] h λr h'=>r= .tup []/\LIn F h0 h' i 27 3 1 ((ZO o d).map zH):=by
 have hex:∃r h',(r=AV.tup []/\LIn F h0 h' i 27 3 1 ((ZO o d).map zH))/\ResK h h':=by
  obtain ⟨h',I,H⟩:=k.any ((ZO o d).map zH)
  exact ⟨_,h',⟨rfl,I⟩,H⟩
 obtain ⟨x,e,l⟩:=k.at_
 have j:zo h x=some (o.map zH):=l.rows.rows
 have J:List.length (zH d)=1:=rfl
 have c:(o.length+1)*9<=140737488355328:=by omega
 refine zf Tryz.f217 [] 21 rfl rfl rfl rfl rfl rfl (by decide) (hex) λB=>?_
 simp only[go_sem,e,j,List.length_map]
 rcases l with ⟨rfl,m⟩ | ⟨id,st,D,rfl,g⟩
 ·have t:o=[]:=by simpa using m
  subst t
  have b:∀M,(h++M)[i]? =some (.box 27 [.v (.slice none 0 0)]):=λM=>zb e
  simp only[go_sem,e,b]
  exact ⟨_,rfl,.inl ⟨rfl,k.push_nil (zg rfl (zj rfl)) (by omega) (by rw[zl (k:=1) rfl];rfl)⟩⟩
 ·have A:∀M,(h++M)[id]? =some (.row 3 1 (o.map zH) st):=λM=>zb g
  have b:∀M,(h++M)[i]? =some (.box 27 [.tl id st]):=λM=>zb e
  have u:id≠i:=λq=>by rw[q,e] at g;cases g
  have f:∀M o',((h++M).set id o')[i]? =some (.box 27 [.tl id st]):=λM o'=>by
   rw[List.getElem?_set_ne u];exact b M
  have app:∀M,NoRes M->ZO o d=o++[d]->LIn F h0 (((h++M).set id (.row 3 1 (o.map zH++[[i64 d]]) (st+1))).set i (.box 27 [.tl id (st+1)])) i 27 3 1 ((ZO o d).map zH):=λM G q=>by
   rw[q,List.map_append]
   exact k.push_own G D g
  cases a:o.getLast? with
  | none=>
    have t:o=[]:=by simpa using a
    subst t
    simp only[go_sem,e]
    simp only[go_sem,b,A,c,f]
    exact ⟨_,rfl,.inl ⟨rfl,app _ (zj rfl) rfl⟩⟩
  | some z=>
    have w:0<o.length:=by cases o with | nil=>cases a | cons _ _=>simp
    have y:(o.map zH)[o.length - 1]? =some [i64 z]:=by
     rw[List.getElem?_map]
     rw[List.getLast?_eq_getElem?] at a
     rw[a];rfl
    have n:((o.length:Int)==0)=false:=by rw[beq_eq_false_iff_ne];omega
    have C:IntKind.wrap .i64 ((o.length:Int) - 1)=((o.length - 1:Nat):Int):=Qn (by omega) (by omega)
    have p:((o.length - 1:Nat):Int)<o.length:=by omega
    have j:zo h (.tl id st)=some (o.map zH):=j
    have E:eOf h (.tl id st)=some 1:=by rw[qJ,g,vh]
    cases q:decide (z<d)
    ·have s:ZO o d=o:=by unfold ZO;rw[a];simp only;rw[if_neg (of_decide_eq_false q)]
     simp only[go_sem,n,e,g,C,y,p,zM,q,List.length_map,Int.toNat_natCast,Int.natCast_nonneg]
     exact ⟨_,rfl,.inl ⟨rfl,by rw[s];exact k⟩⟩
    ·have s:ZO o d=o++[d]:=by unfold ZO;rw[a];simp only;rw[if_pos (of_decide_eq_true q)]
     simp only[go_sem,n,e,g,C,y,p,zM,q,List.length_map,Int.toNat_natCast,Int.natCast_nonneg]
     simp only[go_sem,b,A,c,f,List.length_map]
     exact ⟨_,rfl,.inl ⟨rfl,app _ (zj rfl) s⟩⟩
theorem y6a (h:List Ob) (x:AV) (l:List Spn) (hx:SlOf h x 2 (l.map zD)) (hl:l.length<1048576):
  ACalls Tryz.prog 164 [x] h λr h'=>∃L,h'=h++L/\NoRes L/\New h 1 r ((zF l).map zH) L:=by
 have hex:∃r h',(∃L,h'=h++L/\NoRes L/\New h 1 r ((zF l).map zH) L)/\ResK h h':=
  ⟨.sl 1 _,_,⟨[],rfl,jF,λ_ _=>⟨rfl,λ_=>rfl⟩⟩,zT⟩
 refine zf Tryz.f164 [.cell 2 27] 37 rfl rfl rfl rfl rfl rfl (by decide) (hex) λB=>?_
 simp only[go_sem]
 refine zd (yO _ x l (hx.app _) (by omega)) ?_
 rintro _ h4 ⟨rfl,rfl⟩
 have p:zF l=((zw l).take (zw l).length).foldl xi []:=by rw[List.take_length];rfl
 have w:= @jI l
 rw[p]
 obtain ⟨v,O⟩:∃v,v=zw l:=⟨_,rfl⟩
 have U:v.length<1048576:=by have:=zq l;rw[O];omega
 rw[<-O] at w⊢
 obtain ⟨W,R⟩:∃W,W=(v.take v.length).foldl xi []:=⟨_,rfl⟩
 rw[<-R]
 simp only[go_sem,List.length_map]
 refine zk (by decide) (λm T h'=>∃(i:Nat) (o:List Int),i<=v.length/\o=(v.take i).foldl xi []/\o.length<=372*i/\LIn [] h h' h.length 27 3 1 (o.map zH)/\T 2= .ptr h.length 0/\T 3= .fn (.func 217) [] [.ptr h.length 0]/\T 10=spv v/\T 11=i64 v.length/\T 12=i64 i/\m=v.length - i) v.length
  ⟨0,[],by omega,rfl,by simp,⟨⟨_,rfl,zj rfl⟩,Nat.le_refl _,(λz F=>by cases F),_,by rw[zm rfl];rfl,.inl ⟨rfl,rfl⟩⟩,by simp only[go_sem],by simp only[go_sem],by simp only[go_sem],by (simp only[go_sem]<;>rfl),by (simp only[go_sem]<;>rfl),rfl⟩ ?_
 rintro m T h' ⟨i,o,hi,K,ε,k,t2,t3,t10,d,b,rfl⟩
 simp only[go_sem,d,b]
 refine ways (λe=>?_) (λe=>?_)
 ·have t:=dlt e
  have g:=yb t
  have M:(i:Int)<v.length:=by omega
  have hb:=w _ (List.getElem_mem t)
  have D:(v.take (i+1)).foldl xi []=xi o v[i]:=by rw[<-List.take_append_getElem t,List.foldl_append, <-K];rfl
  obtain ⟨z,F⟩:∃z,z=v[i]:=⟨_,rfl⟩
  rw[<-F] at g D hb
  simp only[go_sem,t10,b,g,M,List.length_map,Int.toNat_natCast,Int.natCast_nonneg]
  refine zd (QBa z.from_ _) ?_
  rintro _ S ⟨rfl,rfl⟩
  have Z:IntKind.wrap .i64 (z.to_ - 1)=z.to_ - 1:=zt (n:=z.to_ - 1) (by unfold Fit;omega)
  simp only[go_sem,Z]
  refine zd (QBa (z.to_ - 1) _) ?_
  rintro _ S ⟨rfl,rfl⟩
  have r1:=kv z.from_
  have r2:=kv (z.to_ - 1)
  have w2:IntKind.wrap .i64 (xz (z.to_ - 1) - xz z.from_)=xz (z.to_ - 1) - xz z.from_:=zt (n:=xz (z.to_ - 1) - xz z.from_) (by unfold Fit;omega)
  have w3:IntKind.wrap .i64 (xz (z.to_ - 1) - xz z.from_+1)=xz (z.to_ - 1) - xz z.from_+1:=zt (n:=xz (z.to_ - 1) - xz z.from_+1) (by unfold Fit;omega)
  simp only[go_sem,w2,w3]
  obtain ⟨a,H⟩:∃a,a=xz z.from_:=⟨_,rfl⟩
  obtain ⟨c,Q⟩:∃c,c=xz (z.to_ - 1) - xz z.from_+1:=⟨_,rfl⟩
  have A:xi o z=Ku o a c.toNat:=by unfold xi;rw[H,Q]
  rw[show xz (z.to_ - 1) - xz z.from_+1=c from Q.symm,show xz z.from_=a from H.symm]
  rw[<-H] at r1
  have Y:c<=371:=by omega
  refine zk (by decide) (λm f G=>∃j:Nat,j<=c.toNat/\LIn [] h G h.length 27 3 1 ((Ku o a j).map zH)/\f 2= .ptr h.length 0/\f 3= .fn (.func 217) [] [.ptr h.length 0]/\f 6=i64 a/\f 10=spv v/\f 11=i64 v.length/\f 12=i64 i/\f 25=i64 c/\f 26=i64 j/\m=c.toNat - j) c.toNat
   ⟨0,by omega,k.app (zj rfl),by simp only[go_sem,t2],by simp only[go_sem,t3],by simp only[go_sem],by simp only[go_sem,t10],by simp only[go_sem,d],by simp only[go_sem,b],by simp only[go_sem],by (simp only[go_sem]<;>rfl),rfl⟩ ?_
  clear k t2 t3 t10 d b
  rintro m f G ⟨j,hj,k,t2,t3,t6,t10,d,b,t25,q,rfl⟩
  simp only[go_sem,t25,q]
  refine ways (λe=>?_) (λe=>?_)
  ·have P:(j:Int)<c:=of_decide_eq_true e
   have w4:IntKind.wrap .i64 (a+j)=a+j:=zt (n:=a+j) (by unfold Fit;omega)
   have X:=XO o a j
   simp only[go_sem,t3,t6,q,w4]
   refine zd (y5a [] h G h.length (Ku o a j) (a+j) k (by omega)) ?_
   rintro _ S ⟨rfl,k6⟩
   simp only[go_sem,q]
   exact ⟨c.toNat - (j+1),by omega,j+1,by omega,k6,t2,t3,t6,t10,d,b,t25,zy (by omega) rfl,rfl⟩
  ·have I:¬ (j:Int)<c:=of_decide_eq_false e
   have J:j=c.toNat:=by omega
   subst J
   simp only[go_sem,b]
   have V:=W7 o z
   exact ⟨v.length - (i+1),by omega,i+1,xi o z,by omega,D.symm,by omega,by rw[A];exact k,t2,t3,t10,d,zy (by omega) rfl,rfl⟩
 ·have I:=jd e
  have E:i=v.length:=by omega
  subst E
  rw[<-R] at K
  subst K
  obtain ⟨N,s,u⟩:=k.at_
  have y:=k.pre
  have C:AV.cells N=some [N]:=u.rows.cells
  simp only[go_sem,t2,s,C]
  rw[zW s]
  exact Qy (by simp only[go_sem,t2,s]) y u
theorem kCa {n:Nat}:∀l:List Int,z6 n (l.map zH)=true
 | []=>rfl
 | s::l=>by
   rw[List.map_cons,z6,kCa l];rfl
theorem kDa (h:List Ob) (x:AV) (l:List Spn) (a:SlOf h x 2 (l.map zD)) (b:l.length<1048576):
  ACalls Tryz.prog 164 [x] h λr h'=>r= .sl 1 ((zF l).map zH)/\h'=h:=xy (by decide) (kCa _) (y6a h x l a b)
end Go.Proofs.YtfmldcilgbbimaaGreat.Ax
namespace Go.Proofs.YtfmldcilgbbimaaGreat.Ax
open Go Go.RowKit
section
variable {P:Program} {ops:Array Oper} {Q:Exit->Act->World->Prop}
theorem Zs (l n:Nat) {o:Oper} {a:Act} {w:World} {K K':Act->World->Prop} (y:∀c,o.op≠ .defer c) (d:∀a w,K a w->K' a w) (h:o.wpIn Fence.wide n P a w K Q):o.wpIn (Fence.wide.inRound l) n P a w K' Q:=by
 unfold Oper.wpIn at h⊢
 refine ⟨λ_ _=>trivial,?_⟩
 have h:=h.2
 rw[Oper.semAt_eq _ _ _ y] at h⊢
 generalize (execOp a.eval o).run P w=r at h⊢
 have b:∀row args w' (R i:Value->World->Prop),(∀v w,R v w->i v w)->RowsIn Fence.wide (n - 1) P row args w' R->RowsIn (Fence.wide.inRound l) (n - 1) P row args w' i:=λrow args w' R i u h c z k=>by
  obtain ⟨v,j,m,t⟩:=h c z (room_wide _)
  exact ⟨v,j,u _ _ m,t⟩
 cases r with
 | ok x w'=>
   cases x with
   | value v=>exact d _ _ h
   | skip=>exact d _ _ h
   | enter f ar=>exact ⟨λg=>(by cases g),CallsIn.inRound l (h.2.mono λe j q=>by cases e<;>first | exact d _ _ q | exact q)⟩
   | row r ar=>exact ⟨λg=>(by cases g),b _ _ _ _ _ (λ_ _=>d _ _) h.2⟩
   | round l' f s aZ p=>exact ⟨λg=>(by cases g),(show RoundIn Fence.wide _ P l' f s aZ p _ _ from h.2.mono λe j q=>by cases e<;>first | exact d _ _ q | exact q)⟩
   | _=>first | exact h | exact h.elim | exact d _ _ h
 | halt x w'=>
   cases x<;>first | exact h | exact h.elim
def Zg (ops:Array Oper):Bool:=ops.toList.all λo=>match o.op with | .defer _=>false | _=>true
theorem XQ (h:Zg ops=true) {i:Nat} {o:Oper} (a:ops[i]? =some o):∀c,o.op≠ .defer c:=by
 intro c b
 unfold Zg at h
 rw[List.all_eq_true] at h
 have:=h o (by rw[<-Array.getElem?_toList] at a;exact List.mem_of_getElem? a)
 rw[b] at this
 cases this
theorem zDa (l n:Nat) (e:¬ LetsOut Q) (d:Zg ops=true) {i:Nat} {a:Act} {w:World} {K:Act->World->Prop} (h:wpOp P ops Q i K a w):wpOpIn (Fence.wide.inRound l) n P ops Q i K a w:=by
 unfold wpOp at h
 unfold wpOpIn
 cases b:ops[i]? with
 | none=>rw[b] at h;exact h
 | some o=>
   rw[b] at h
   simp only at h⊢
   split
   ·rename_i c
    rw[if_pos c] at h
    rcases h with h | ⟨_,h⟩
    ·exact Zs l n (XQ d b) (λ_ _ q=>q) (yZ n h)
    ·exact absurd h e
   ·rename_i c
    rw[if_neg c] at h
    exact ⟨λ_ _=>trivial,h⟩
theorem Jo (l n:Nat) (c:¬ LetsOut Q) (d:Zg ops=true):∀(b:Nat) (listed:Array Bool) (a:Act) (w:World),wpAny P .any ops Q b listed a w->wpAnyIn (Fence.wide.inRound l) n P .any ops Q b listed a w
 | 0,_,_,_,h=>h
 | b+1,_,_,_,h=>⟨h.1,λi f=>zDa l n c d (wpOp_mono (λe w' h'=>Jo l n c d b _ e w' h') (h.2 i f))⟩
theorem XR (b n:Nat):∀(l:List Oper) {a:Act} {w:World},(∀o∈l,∀c,o.op≠ .defer c)->wpListIn Fence.wide n P ops Q l a w->wpListIn (Fence.wide.inRound b) n P ops Q l a w
 | [],_,_,_,h=>h
 | o::l,a,w,f,h=>by
   have e:∀a w,wpListIn Fence.wide n P ops Q l a w->wpListIn (Fence.wide.inRound b) n P ops Q l a w:=λa w=>XR b n l λx g=>f x (.tail _ g)
   unfold wpListIn at h⊢
   split
   ·rename_i d
    rw[if_pos d] at h
    exact Zs b n (f o (.head _)) e h
   ·rename_i d
    rw[if_neg d] at h
    exact ⟨λ_ _=>trivial,e _ _ h.2⟩
end
section
variable {P:Program} {N b:Nat} {T:Env} {h:List Ob} {c c':Code} {ops:Array Oper} {Q Q':jl}
def RWp (P:Program) (N b l:Nat) (c:Code) (Q:jl) (T:Env) (h:List Ob):Prop:=
 ∀(φ:Nat->Ob),Upto φ h.length->∀(w:World) (g:Gh) (a:Act),Rel N ⟨b,[]⟩ w g (fill φ h) a T->c.wpIn (Fence.wide.inRound l) 0 P (λe f w'=>∃d h',Q e d h'/\Aft N ⟨b,[]⟩ φ w g h d h' f w') a w
theorem wka {l:Nat} (k:RWp P N b l c (kH (RWp P N b l c' Q) Q) T h):RWp P N b l (.seq c c') Q T h:=λφ f w g a r=>by
 refine wpIn_seq (Code.wpIn_mono (λe m w' ⟨q,h',i,d⟩=>?_) (k φ f w g a r))
 have s:=d.len
 cases e<;>first
  | (obtain ⟨g',t,n,p⟩:=d;exact Code.wpIn_mono (λ_ _ _ ⟨u,j,v,o⟩=>⟨u,j,v,o.trans t p⟩) (i φ (f.mono s) w' g' m n))
  | exact ⟨q,h',i,d⟩
theorem K4 {l id:Nat} (k:RWp P N b l c (wM id Q) T h):RWp P N b l (.block id c) Q T h:=λφ n w g a r=>by
 refine wpIn_block (Code.wpIn_mono (λe o w' ⟨m,h',d,f⟩=>?_) (k φ n w g a r))
 cases e with
 | exit i=>
   simp only[wM] at d
   simp only[Exit.inBlock]
   split
   ·rename_i j;rw[if_pos j] at d;exact ⟨m,h',d,f⟩
   ·rename_i j;rw[if_neg j] at d;exact ⟨m,h',d,f⟩
 | _=>exact ⟨m,h',d,f⟩
theorem yc {l id:Nat} (j:ops.toList.all (kY N)=true) (m:Zg ops=true) (k:wpR P ops (Q .normal) ops.toList T h):RWp P N b l (.region id ops false) Q T h:=λφ d w g a r=>by
 refine wpIn_region ?_
 rw[List.range_eq_range', <-Array.length_toList,wpOpsIn_eq_wpListIn ops.toList 0 (by simp)]
 refine XR l 0 ops.toList (λo f=>?_) (wv ops.toList j d (qja _ k) r λe h' w' n k' q=>⟨e,h',k',q⟩)
 obtain ⟨i,c⟩:=List.mem_iff_getElem?.1 f
 exact XQ m (i:=i) (by rw[<-Array.getElem?_toList];exact c)
theorem kEa {l id:Nat} (W:P.follows .mixedOrders=true) (L:List Ob) (k:Nat) (c:List Ent) (V:L=List.replicate k .res) (J:ops.toList.all (kY N)=true) (f:Xi ops k c=true) (Z:Zg ops=true) (v:∀T h,¬ Q .outgrown T h) (G:wpQ P ops h.length (Q .normal) c T (h++L)):RWp P N b l (.region id ops true) Q T h:=λφ B w g a r=>by
 have kk:=x4a _ (V▸G)
 simp only[Xi,Bool.and_eq_true,List.all_eq_true,decide_eq_true_eq,List.contains_eq_mem,List.mem_range] at f
 obtain ⟨⟨⟨⟨⟨I,Y⟩,A⟩,M⟩,U⟩,p⟩:=f
 have m:=Good.drew (g:=g) r.ok r.hB
 have z:=QG m.size k m.ok
 have s:=m.trans z
 have y:fill φ (h++List.replicate k .res)=fill φ h++List.replicate k .res:=q8 B
 rw[<-y] at s
 have C:Rel N ⟨b,[]⟩ w.drew g (fill φ (h++List.replicate k .res)) a T:=⟨s.ok,s.size,λi=>AR.le s.le _ _ (r.t i),r.d,r.n⟩
 refine wpIn_region_any W (Jo l 0 ?_ Z _ _ _ _ ?_)
 ·rintro ⟨a1,w1,T1,h1,X,_⟩
  exact v _ _ X
 have R:Rest ops (Array.replicate ops.size false) c:=by
  refine ⟨by simp,U,λi j=>?_,wo c I,λq v=>⟨k,A q v⟩,λi o x S=>?_⟩
  ·simp[Array.getD_eq_getD_getElem?,j]
   have:=M i j
   simpa using this
  ·have j:i<ops.size:=by
    rcases Nat.lt_or_ge i ops.size with h | h
    ·exact h
    ·rw[Array.getElem?_eq_none h] at x;cases x
   simp[Array.getD_eq_getD_getElem?,j] at S
 refine KR (K:=Q .normal) B Y J ops.size _ c p R (by simp) (λq v o x O=>?_) kk C λF h' w' g' a' k' D E q=>⟨F,h',k',g',λi j=>?_,E,s.trans q⟩
 ·obtain ⟨o',e,_,_,H,_⟩:=vB (A q v)
  rw[x] at e
  injection e with e
  subst e
  have:=H O
  rw[List.getElem?_append_right (by omega),Nat.add_sub_cancel_left,List.getElem?_replicate,if_pos this]
 ·have u:=(List.getElem?_eq_some_iff.1 j).1
  exact D i u (by rw[List.getElem?_append_left u];exact j)
abbrev wF:=Exit->List Deferred->Env->List Ob->Prop
def Zl (P:Program) (N b:Nat) (ds:List Deferred) (c:Code) (Q:wF) (T:Env) (h:List Ob):Prop:=
 ∀ (φ:Nat->Ob),Upto φ h.length->∀(w:World) (g:Gh) (a:Act),Rel N ⟨b,ds⟩ w g (fill φ h) a T->
   c.wp P (λe i w'=>∃d f h',Q e d f h'/\∃g',ResK h h'/\Rel N ⟨b,d⟩ w' g' (fill φ h') i f/\Good b w g (fill φ h) w' g' (fill φ h')) a w
variable {ds:List Deferred} {X X':wF}
theorem qta (k:AWp P N ⟨b,ds⟩ c Q T h) (d:∀e T h,Q e T h->X e ds T h):Zl P N b ds c X T h:=λφ i w g a r=>
 wp_mono (k φ i w g a r) λe o w' ⟨l,h',m,g',f,j,n⟩=>⟨ds,l,h',d _ _ _ m,g',f,j,n⟩
def QCa (K:List Deferred->Env->List Ob->Prop) (X:wF):wF
 | .normal,ds,T,h=>K ds T h
 | e,ds,T,h=>X e ds T h
theorem XS (k:Zl P N b ds c (QCa (λd T h=>Zl P N b d c' X T h) X) T h):Zl P N b ds (.seq c c') X T h:=λφ l w g a r=>by
 refine wp_seq (wp_mono (k φ l w g a r) λe q w' ⟨d,t,h',m,g',n,j,f⟩=>?_)
 have u:h.length<=h'.length:=Qb f
 cases e<;>first
  | exact wp_mono (m φ (l.mono u) w' g' q j) λ_ _ _ ⟨i,v,o,x,p,s,z3,z4⟩=>⟨i,v,o,x,p,n.trans s,z3,f.trans z4⟩
  | exact ⟨d,t,h',m,g',n,j,f⟩
theorem Jp {id:Nat} (k:Zl P N b ds c (λe d T h=>e= .normal/\X .normal d T h) T h):Zl P N b ds (.block id c) X T h:=λφ j w g a r=>by
 refine wp_block (wp_mono (k φ j w g a r) λe n w' ⟨d,l,h',⟨i,m⟩,f⟩=>?_)
 subst i
 exact ⟨d,l,h',m,f⟩
end
end Go.Proofs.YtfmldcilgbbimaaGreat.Ax
