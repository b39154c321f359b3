/-
  Joined.
-/
import Derived.Test.YtigdlmpjijhpaaaGreatK19
import Derived.Test.YtigdlmpjijhpaaaGreatK21
import Derived.Test.YtigdlmpjijhpaaaGreatK23
import Derived.Test.YtigdlmpjijhpaaaGreatK10
import Derived.Test.YtigdlmpjijhpaaaGreatK24
import Derived.OrdersIn
import Derived.RangeFuncCalls
import Derived.RangeFuncNested
import Derived.RangeFuncLeaves
set_option linter.unusedSimpArgs false
set_option linter.unusedVariables false
namespace Go.Proofs.YtigdlmpjijhpaaaGreat.Ax
open Go
structure FlF (D:List Ev) (t:TellS):Prop where
 flags:∀x∈t.flags,∃e∈D,e.id=x.id
 opn:∀f os,t.open_=some (f,os)->f∈D
section
variable {D:List Ev} {t:TellS} {s:Setup}
theorem FlF.flag (h:FlF D t) {e:Ev} (b:e∈D) (k:Int):FlF D (xL t e k):=⟨λx a=>by
 rcases List.mem_append.1 (show x∈t.flags++[⟨e.id,k⟩] from a) with a | a
 ·exact h.flags x a
 ·rw[List.mem_singleton] at a;subst a;exact ⟨e,b,rfl⟩,h.opn⟩
theorem FlF.close (h:FlF D t) (f:Ev) (os:List Ev) (at_:Int):FlF D (vN s t f os at_):=⟨h.flags,λ_ _ q=>by cases q⟩
theorem FlF.late (h:FlF D t) (m:Int):FlF D (qO s t m):=by
 unfold qO
 split
 ·exact h
 ·rename_i e os a
  split
  ·exact (h.flag (h.opn e os a) 1).close e os _
  ·exact h
theorem FlF.next (h:FlF D t) {e:Ev} (b:e∈D):FlF D (Zz s t e):=by
 have a:=h.late (s:=s) e.at_
 unfold Zz
 split
 ·split
  ·exact ⟨a.flags,λf os q=>by injection q with q;injection q with q _;rw[<-q];exact b⟩
  ·rename_i f os c
   have g:=(a.flag (a.opn f os c) 2).close (s:=s) f os e.at_
   exact ⟨g.flags,λf os q=>by injection q with q;injection q with q _;rw[<-q];exact b⟩
 ·split
  ·exact a.flag b 3
  ·rename_i f os c
   split
   ·exact a.close f os _
   ·exact ⟨a.flags,λi d q=>by injection q with q;injection q with q _;rw[<-q];exact a.opn f os c⟩
theorem FlF.go {w:Int}:∀(l:List Ev) {t:TellS},FlF D t->(∀e∈l,e∈D)->FlF D (l.foldl (wI s w) t)
 | [],t,h,_=>h
 | e::l,t,h,a=>by
   rw[List.foldl_cons]
   refine FlF.go l ?_ λx b=>a x (.tail _ b)
   unfold wI
   split
   ·exact h.next (a e (.head _))
   ·exact h
theorem j0a {l:List Ev} {w:Int}:∀x∈(zR s l w).2,∃e∈l,e.id=x.id:=by
 unfold zR
 split
 ·have h0:FlF l ⟨none,[],[]⟩:=⟨λx a=>(by cases a),λ_ _ q=>(by cases q)⟩
  have b:FlF l (goP s w (zx l)):=FlF.go _ h0 λe c=>QR.1 c
  exact (b.late (s:=s) 32054400).flags
 ·intro x a;cases a
end
end Go.Proofs.YtigdlmpjijhpaaaGreat.Ax
namespace Go.Proofs.YtigdlmpjijhpaaaGreat.Ax
open Go Go.Proofs
def inG (s:Setup) (n:Int) (g:Seg):Bool:=decide (n - (s.unit+s.cap)<=g.from_) && decide (g.to_<=n+(s.unit+s.cap))
def Q0a (s:Setup) (n:Int) (l:List Seg):List Seg:=l.filter λg=> !inG s n g
def Q1a (q:Int->Bool) (l:List Flg):List Flg:=l.filter λf=> !q f.id
def InO (s:Setup) (p:Ev->Prop) (n:Int) (t:TellS):Prop:=∀f os,t.open_=some (f,os)->p f/\n - s.cap<=f.at_/\f.at_<=n
structure Nr (s:Setup) (p:Ev->Prop) (n:Int) (q:Int->Bool) (a b:TellS):Prop where
 seg:Q0a s n a.segs=Q0a s n b.segs
 flg:Q1a q a.flags=Q1a q b.flags
 opn:a.open_=b.open_∨(InO s p n a/\InO s p n b)
section
variable {s:Setup} {p:Ev->Prop} {n:Int} {q:Int->Bool} {a b t:TellS}
end
def vP (s t:Spn):Spn:=⟨max s.from_ t.from_,min s.to_ t.to_⟩
def vj (a b:List Spn):List Spn:=a.flatMap λs=>b.map (vP s)
def QZ (a b:List Spn):List Spn:=zt (vj (zt a) (zt b))
theorem zQa (a b:List Spn) (s:Spn):vj (a++[s]) b=vj a b++b.map (vP s):=by simp[vj]
theorem K9 (a b:List Spn):(vj a b).length=a.length*b.length:=by
 induction a with
 | nil=>simp[vj]
 | cons s a c=>simp only[vj,List.flatMap_cons,List.length_append,List.length_map,List.length_cons,Nat.succ_mul] at *; omega
theorem j3a {a b:List Spn} {t:Int}:Cov (vj a b) t↔Cov a t/\Cov b t:=by
 unfold Cov vj
 constructor
 ·rintro ⟨s,c,f,g⟩
  obtain ⟨x,d,c⟩:=List.mem_flatMap.1 c
  obtain ⟨y,e,rfl⟩:=List.mem_map.1 c
  simp only[vP] at f g
  exact ⟨⟨x,d,by omega,by omega⟩,y,e,by omega,by omega⟩
 ·rintro ⟨⟨x,d,f,g⟩,y,e,h,i⟩
  exact ⟨vP x y,List.mem_flatMap.2 ⟨x,d,List.mem_map.2 ⟨y,e,rfl⟩⟩,by simp only[vP];omega,by simp only[vP];omega⟩
theorem wK {a b:List Spn} {t:Int}:Cov (QZ a b) t↔(0<=t/\t<32054400)/\Cov a t/\Cov b t:=by
 unfold QZ
 rw[qg,j3a,qg,qg]
 constructor
 ·rintro ⟨c,d,⟨_,_,e⟩,_,_,f⟩;exact ⟨⟨c,d⟩,e,f⟩
 ·rintro ⟨⟨c,d⟩,e,f⟩;exact ⟨c,d,⟨c,d,e⟩,c,d,f⟩
theorem yT:∀(c:Spn) (r:List Spn) (s:Spn),s∈jO c r->s.from_=c.from_∨∃x∈r,s.from_=x.from_
 | c,[],s,h=>by
   rw[jO,List.mem_singleton] at h
   subst h;exact .inl rfl
 | c,x::r,s,h=>by
   rw[jO] at h
   split at h
   ·rcases yT _ r s h with h | ⟨y,a,h⟩
    ·exact .inl h
    ·exact .inr ⟨y,.tail _ a,h⟩
   ·rcases List.mem_cons.1 h with rfl | h
    ·exact .inl rfl
    ·rcases yT x r s h with h | ⟨y,a,h⟩
     ·exact .inr ⟨x,.head _,h⟩
     ·exact .inr ⟨y,.tail _ a,h⟩
theorem ZS {l:List Spn} {s:Spn} (h:s∈zt l):∃x∈qP l,s.from_=x.from_:=by
 unfold zt at h
 have b:∀x∈Qx (qP l),x∈qP l:=λx a=>(xD _).mem_iff.1 a
 cases d:Qx (qP l) with
 | nil=>rw[d] at h;cases h
 | cons c r=>
   rw[d] at h b
   rcases yT c r s h with h | ⟨x,a,h⟩
   ·exact ⟨c,b c (.head _),h⟩
   ·exact ⟨x,b x (.tail _ a),h⟩
theorem Zn:∀ {a b:List Int},a.Nodup->(∀x∈a,x∈b)->a.length<=b.length
 | [],_,_,_=>by simp
 | x::a,b,c,f=>by
   rw[List.nodup_cons] at c
   have d:=f x (.head _)
   have:=Zn (a:=a) (b:=b.erase x) c.2 λy g=>(List.mem_erase_of_ne (λe=>c.1 (by rw[<-e];exact g))).2 (f y (.tail _ g))
   rw[List.length_erase_of_mem d] at this
   have:0<b.length:=List.length_pos_of_mem d
   rw[List.length_cons];omega
theorem PlainS.froms {l:List Spn} (h:PlainS l):(l.map (·.from_)).Nodup:=by
 induction l with
 | nil=>simp
 | cons s l b=>
   rw[List.map_cons,List.nodup_cons]
   refine ⟨λc=>?_,b h.tail⟩
   obtain ⟨x,a,e⟩:=List.mem_map.1 c
   have f:=(List.pairwise_cons.1 h.gap).1 x a
   have d:=h.pos s (.head _)
   omega
theorem XQ (a b:List Spn):(QZ a b).length<=(zt a).length+(zt b).length:=by
 have k:=(qK (vj (zt a) (zt b))).froms
 have d:((QZ a b).map (·.from_)).length<=((zt a).map (·.from_)++(zt b).map (·.from_)).length:=by
  refine Zn k λx j=>?_
  obtain ⟨s,d,rfl⟩:=List.mem_map.1 j
  obtain ⟨y,h,e⟩:=ZS d
  unfold qP at h
  obtain ⟨z,c,rfl⟩:=List.mem_map.1 (List.mem_filter.1 h).1
  obtain ⟨p,f,c⟩:=List.mem_flatMap.1 c
  obtain ⟨q,g,rfl⟩:=List.mem_map.1 c
  have l:=(jC p f).1
  have m:=(jC q g).1
  rw[List.mem_append]
  rw[e]
  simp only[jp,vP]
  by_cases i:p.from_<=q.from_
  ·exact .inr (List.mem_map.2 ⟨q,g,by omega⟩)
  ·exact .inl (List.mem_map.2 ⟨p,f,by omega⟩)
 simpa using d
def zT:Int->List Spn->List Spn
 | k,[]=>if k<32054400 then [⟨k,32054400⟩] else []
 | k,s::r=>(if s.from_>k then [⟨k,s.from_⟩] else [])++zT s.to_ r
def zV (a b:List Spn):List Spn:=QZ a (zT 0 (zt b))
theorem XR:∀ {l:List Spn} {k t:Int},PlainS l->(∀s∈l,k<=s.from_)->(∀s∈l,s.to_<=32054400)->(Cov (zT k l) t↔(k<=t/\t<32054400)/\¬ Cov l t)
 | [],k,t,_,_,_=>by
   unfold zT
   split
   ·simp[Cov]
   ·simp[Cov];omega
 | s::r,k,t,b,i,e=>by
   have m:=i s (.head _)
   have n:=b.pos s (.head _)
   have j:=e s (.head _)
   have g:=XR (l:=r) (k:=s.to_) (t:=t) b.tail (λx d=>by have:=(List.pairwise_cons.1 b.gap).1 x d;omega) (λx d=>e x (.tail _ d))
   have c:Cov r t->s.to_<t:=b.above
   rw[zT,VY,g,qw]
   split
   ·simp only[Cov,List.mem_singleton,exists_eq_left]
    constructor
    ·rintro (h | ⟨h,a⟩)
     ·refine ⟨by omega,?_⟩
      rintro (q | q)
      ·omega
      ·have:=c q;omega
     ·exact ⟨by omega,λq=>by rcases q with q | q;omega;exact a q⟩
    ·rintro ⟨h,a⟩
     by_cases o:t<s.from_
     ·exact .inl (by omega)
     ·refine .inr ⟨⟨?_,h.2⟩,λq=>a (.inr q)⟩
      apply Classical.byContradiction
      intro f
      exact a (.inl (by omega))
   ·simp only[Cov,List.not_mem_nil,false_and,exists_false,false_or]
    constructor
    ·rintro ⟨h,a⟩
     exact ⟨by omega,λq=>by rcases q with q | q;omega;exact a q⟩
    ·rintro ⟨h,a⟩
     refine ⟨⟨?_,h.2⟩,λq=>a (.inr q)⟩
     apply Classical.byContradiction
     intro f
     exact a (.inl (by omega))
theorem ZT:∀(l:List Spn) (k:Int),(zT k l).length<=l.length+1
 | [],k=>by unfold zT;split<;>simp
 | s::r,k=>by
   have:=ZT r s.to_
   rw[zT,List.length_append,List.length_cons]
   split<;>simp<;>omega
theorem qn {a b:List Spn} {t:Int}:Cov (zV a b) t↔(0<=t/\t<32054400)/\Cov a t/\¬ Cov b t:=by
 unfold zV
 rw[wK,XR (qK b) (λs f=>(jC s f).1) (λs f=>(jC s f).2.2),qg]
 constructor
 ·rintro ⟨c,e,_,d⟩;exact ⟨c,e,λq=>d ⟨c.1,c.2,q⟩⟩
 ·rintro ⟨c,e,d⟩;exact ⟨c,e,c,λq=>d q.2.2⟩
theorem qS (a b:List Spn):(zV a b).length<=(zt a).length+(zt b).length+1:=by
 have c:=XQ a (zT 0 (zt b))
 have e:=zq (zT 0 (zt b))
 have d:=ZT (zt b) 0
 unfold zV
 omega
def xU (s:Spn) (n:Int):Spn:=⟨s.from_,min s.to_ (s.from_+min n 32054400)⟩
def kz:List Spn->Int->List Spn
 | [],_=>[]
 | s::r,n=>if n<=0 then [] else xU s n::kz r (n - ((xU s n).to_ - s.from_))
theorem jd:∀(l:List Spn) (n:Int),(kz l n).length<=l.length
 | [],_=>Nat.le_refl _
 | s::r,n=>by
   rw[kz]
   split
   ·simp
   ·have:=jd r (n - ((xU s n).to_ - s.from_))
    simp only[List.length_cons];omega
def zC (l:List Spn) (n:Int):List Spn:=kz (zt l) n
def yU (l:List Spn) (n:Int):List Spn:=if n<=0 then [] else zV l (zC l (qf (zt l) - min n 32054400))
end Go.Proofs.YtigdlmpjijhpaaaGreat.Ax
namespace Go.Proofs.YtigdlmpjijhpaaaGreat.Ax
open Go Go.RowKit
theorem zRa {o:Option Ob} {st:Nat} {rows:List (List AV)} (a:KZ o st=some rows):∃ty e,o=some (.row ty e rows st):=by
 unfold KZ at a
 split at a
 ·split at a
  ·rename_i b
   injection a with a
   subst b a
   exact ⟨_,_,rfl⟩
  ·cases a
 ·cases a
def Yd:AV->Option Nat
 | .tl id _=>some id
 | .vw a _ _ _=>Yd a
 | _=>none
theorem qJa {n:Nat} {L:List Ob}:∀(r:AV) {rows:List (List AV)},zo (List.replicate n .gone++L) r=some rows->∀id,Yd r=some id->n<=id
 | .tl id st,rows,h,i,b=>by
   injection b with b
   subst b
   apply Classical.byContradiction
   intro d
   have:(List.replicate n Ob.gone++L)[id]? =some .gone:=by
    rw[List.getElem?_append_left (by rw[List.length_replicate];omega),List.getElem?_replicate,if_pos (by omega)]
   rw[zP,this] at h
   cases h
 | .vw a e i k,rows,h,id,b=>by
   rw[xJ] at h
   cases c:zo (List.replicate n .gone++L) a with
   | none=>rw[c] at h;cases h
   | some ys=>exact qJa a c id b
 | .v _,_,_,_,b | .sl _ _,_,_,_,b | .em,_,_,_,b | .ptr _ _,_,_,_,b | .ep _ _ _ _,_,_,_,b | .mp _,_,_,_,b | .ag _,_,_,_,b | .tup _,_,_,_,b | .fn _ _ _,_,_,_,b | .bad,_,_,_,b=>by cases b
section
variable {B:Nat} {w:World} {g:Gh} {h L:List Ob}
theorem kRa {b:Nat} (k:kept g h b):kept g (h++L) b:=by
 obtain ⟨i,o,a,c⟩:=k
 exact ⟨i,o,zb a,c⟩
theorem XS (K:HOk B w g (h++L)):∀(r:AV) {A:Addr} {n k:Nat} {rows:List (List AV)} {e:Nat},AR (ctx w g (h++L)) r (.slice (some A) n k)->zo (h++L) r=some rows->eOf (h++L) r=some e->0<e->rows≠[]->(∀id,Yd r=some id->h.length<=id)->¬ kept g h A.block
 | .sl t xs,A,n,k,rows,e,l,b,f,h0,j,d=>by
   obtain ⟨R,k',y,Z,J⟩:=l
   injection y with y o G
   subst y
   injection b with b
   subst b
   injection f with f
   subst f
   cases xs with
   | nil=>exact absurd rfl j
   | cons x xs=>
     obtain ⟨⟨T,D⟩,_⟩:=J
     cases x with
     | nil=>simp at T;omega
     | cons c x=>
       obtain ⟨⟨N,u,z,P,_⟩,_⟩:=D
       injection z with z
       subst z
       intro W
       refine P.1 ?_
       have:(A.add (0*t)).block=A.block:=by unfold Addr.add;split<;>rfl
       rw[this]
       exact kRa W
 | .tl id st,A,n,k,rows,e,l,b,f,h0,j,d=>by
   rw[zP] at b
   obtain ⟨ty,t,I⟩:=zRa b
   have D:=ZE l I
   rintro ⟨i,p,M,U⟩
   have S:=j8 M
   have hid:=d id rfl
   refine K.apart i id p _ A.block (by omega) (zb M) I U ?_
   show (g.cur id).ownBlock=_
   rw[<-D];rfl
 | .vw a t i m,A,n,k,rows,e,l,b,f,h0,j,d=>by
   obtain ⟨A0,m0,cp,R,k',y,Z,J,o,G,_⟩:=l
   rw[xJ] at b
   rw[ZN] at f
   cases F:zo (h++L) a with
   | none=>rw[F] at b;cases b
   | some ys=>
     rw[F] at b
     simp only[Option.bind_some] at b
     split at b
     ·rename_i C
      injection b with b
      cases s:eOf (h++L) a with
      | none=>rw[s] at f;cases f
      | some Q=>
        have H:0<m:=by
         apply Classical.byContradiction
         intro H
         have:m=0:=by omega
         subst this
         rw[List.take_zero] at b
         exact j b.symm
        have E:ys≠[]:=by
         intro X
         subst X
         simp at C
         omega
        have Y:Q=t/\t=e:=by
         rw[s] at f
         simp only[Option.bind_some] at f
         split at f
         ·rename_i q;injection f with f;exact ⟨q,f⟩
         ·cases f
        injection o with o h6 h7
        subst h6
        obtain ⟨N,q1,V⟩:=G H
        subst q1
        have O:=XS K a y F s (by omega) E d
        rw[V] at o
        injection o with o
        have:A.block=N.block:=by rw[o];unfold Addr.add;split<;>rfl
        rw[this]
        exact O
     ·cases b
 | .v x,A,n,k,rows,e,l,b,f,h0,j,d=>by
   have l:Value.slice (some A) n k=x:=l
   subst l
   cases b
 | .em,_,_,_,_,_,_,b,_,_,j,_=>by injection b with b;exact absurd b.symm j
 | .ptr _ _,_,_,_,_,_,_,b,_,_,_,_ | .ep _ _ _ _,_,_,_,_,_,_,b,_,_,_,_ | .mp _,_,_,_,_,_,_,b,_,_,_,_ | .ag _,_,_,_,_,_,_,b,_,_,_,_ | .tup _,_,_,_,_,_,_,b,_,_,_,_ | .fn _ _ _,_,_,_,_,_,_,b,_,_,_,_ | .bad,_,_,_,_,_,_,b,_,_,_,_=>by cases b
theorem Q0 (J:HOk B w g (h++L)) {r:AV} {u:Value} {rows:List (List AV)} {e:Nat} (C:0<e) (H:AR (ctx w g (h++L)) r u) (E:SlOf (h++L) r e rows) (d:∀id,Yd r=some id->h.length<=id) (O:qb h.length rows=true):AR (ctx w g h) (.sl e rows) u:=by
 obtain ⟨A,k,t,G,Q,R⟩:=xz J r H E.rows
 by_cases q:rows=[]
 ·subst q
  exact ⟨A,k,t,G,True.intro⟩
 have o:=E.ee q
 have s:=Q e o
 refine ⟨A,k,t,G,?_⟩
 have M:∃a0,A=some a0:=by
  cases rows with
  | nil=>exact absurd rfl q
  | cons x xs=>
    have b:=s.len x (by simp)
    cases x with
    | nil=>simp at b;omega
    | cons c x=>
      obtain ⟨K,v,p,_⟩:=s.cell 0 0 (c::x) c rfl rfl
      exact ⟨K,p⟩
 obtain ⟨a0,rfl⟩:=M
 subst t
 have D:=XS J r H E.rows o C q d
 have l:=km w g h L
 have cells:∀(i:Nat) (x:List AV),rows[i]? =some x->zQ h.length x=true->∀(y:List AV) (k0:Nat),(∀j a,y[j]? =some a->x[k0+j]? =some a)->zQ h.length y=true->ACells (ctx w g h) (some a0) (i*e+k0) y:=by
  intro i x m _ y
  induction y with
  | nil=>intro _ _ _;trivial
  | cons c y F=>
    intro k0 n b
    have b:c.lt h.length=true/\zQ h.length y=true:=by simpa [zQ] using b
    have I:=n 0 c rfl
    rw[Nat.add_zero] at I
    obtain ⟨K,v,p,N,P⟩:=s.cell i k0 x c m I
    injection p with p
    subst p
    refine ⟨⟨a0,v,rfl,⟨?_,N⟩,AR.less l c v b.1 P⟩,?_⟩
    ·have:(a0.add (i*e+k0)).block=a0.block:=by unfold Addr.add;split<;>rfl
     rw[this]
     exact D
    ·have:=F (k0+1) (λj a f=>by
      have:=n (j+1) a f
      rw[show k0+(j+1)=k0+1+j by omega] at this
      exact this) b.2
     rw[show i*e+k0+1=i*e+(k0+1) by omega]
     exact this
 have all:∀(ys:List (List AV)) (i:Nat),(∀j x,ys[j]? =some x->rows[i+j]? =some x)->qb h.length ys=true->ARows (ctx w g h) (some a0) e i ys:=by
  intro ys
  induction ys with
  | nil=>intro _ _ _;trivial
  | cons x ys F=>
    intro i n b
    have b:zQ h.length x=true/\qb h.length ys=true:=by simpa [qb] using b
    have m:=n 0 x rfl
    rw[Nat.add_zero] at m
    refine ⟨⟨s.len x (List.mem_of_getElem? m),?_⟩,F (i+1) (λj z f=>by
     have:=n (j+1) z f
     rw[show i+(j+1)=i+1+j by omega] at this
     exact this) b.2⟩
    have:=cells i x m b.1 x 0 (λj a f=>by rw[Nat.zero_add];exact f) b.1
    simpa using this
 exact all rows 0 (λj x f=>by rw[Nat.zero_add];exact f) O
end
theorem New.root {h L:List Ob} {e:Nat} {x:AV} {rows:List (List AV)} (k:New h e x rows L):∀id,Yd x=some id->h.length<=id:=
 qJa (L:=L) x (k (List.replicate h.length .gone) (by simp)).rows
variable {P:Program} {f:FuncId} {ar:List AV} {h:List Ob}
theorem xE {e:Nat} {rows:List (List AV)} (p:0<e) (m:qb h.length rows=true) (c:ACalls P f ar h λr h'=>∃L,h'=h++L/\NoRes L/\New h e r rows L):ACalls P f ar h λr h'=>r= .sl e rows/\h'=h:=by
 refine ⟨c.1,⟨_,_,⟨rfl,rfl⟩,.refl⟩,λφ l B w g vs j hB b=>?_⟩
 refine (c.2.2 φ l B w g vs j hB b).mono λq w' ⟨v,r,h',g',o,⟨L,n,_,k⟩,_,d,i⟩=>?_
 subst n
 rw[jh l] at d i
 have a:(fill φ h).length=h.length:=qi
 refine ⟨v,_,h,g',o,⟨rfl,rfl⟩,.refl,d.drop rfl (by have:=j.ids;exact this),?_⟩
 refine Q0 d.ok p i (k _ a) (λid hid=>by rw[a];exact k.root id hid) (by rw[a];exact m)
theorem Ye {e d:Nat} {rows b:List (List AV)} (t:0<e) (A:0<d) (x:qb h.length rows=true) (l:qb h.length b=true) (c:ACalls P f ar h λr h'=>∃L y z,h'=h++L/\NoRes L/\r= .tup [y,z]/\New h e y rows L/\New h d z b L):ACalls P f ar h λr h'=>r= .tup [.sl e rows,.sl d b]/\h'=h:=by
 refine ⟨c.1,⟨_,_,⟨rfl,rfl⟩,.refl⟩,λφ m B w g vs n hB i=>?_⟩
 refine (c.2.2 φ m B w g vs n hB i).mono λG w' ⟨v,r,h',g',p,⟨L,y,z,q,_,E,n1,n2⟩,_,j,o⟩=>?_
 subst q E
 rw[jh m] at j o
 have a:(fill φ h).length=h.length:=qi
 obtain ⟨us,rfl,C,H,F,a1,D,s,u,a2,k⟩:=o
 have k:s=[]:=k
 subst k u
 refine ⟨_,_,h,g',p,⟨rfl,rfl⟩,.refl,j.drop rfl (by have:=n.ids;exact this),us,rfl,?_⟩
 rw[F]
 exact ⟨C,_,rfl,Q0 j.ok t a1 (n1 _ a) (λid hid=>by rw[a];exact n1.root id hid) (by rw[a];exact x),D,_,rfl,Q0 j.ok A a2 (n2 _ a) (λid hid=>by rw[a];exact n2.root id hid) (by rw[a];exact l),rfl⟩
def WeakV (r a:AV):Prop:=∀(c:Ctx) (v:Value),AR c r v->AR c a v
theorem WeakV.refl (r:AV):WeakV r r:=λ_ _ h=>h
theorem WeakV.nil (e:Nat):WeakV (.v (.slice none 0 0)) (.sl e []):=λ_ v h=>by
 have h:v= .slice none 0 0:=h
 subst h
 exact ⟨none,0,rfl,Nat.le_refl _,True.intro⟩
theorem WeakV.two {a d b f:AV} (k:WeakV a d) (i:WeakV b f):WeakV (.tup [a,b]) (.tup [d,f]):=λc v ⟨vs,e,x,r,h,a1,y,j,g,a2,l⟩=>⟨vs,e,x,r,h,k c x a1,y,j,g,i c y a2,l⟩
theorem Jt {R i:AV->List Ob->Prop} (c:ACalls P f ar h R) (e:∀r h',R r h'->∃b,i b h'/\WeakV r b):ACalls P f ar h i:=by
 refine ⟨c.1,?_,λφ t B w g vs n hB a=>?_⟩
 ·obtain ⟨r,h',l,o⟩:=c.2.1
  obtain ⟨b,d,_⟩:=e r h' l
  exact ⟨b,h',d,o⟩
 ·refine (c.2.2 φ t B w g vs n hB a).mono λu w' ⟨v,r,h',g',q,p,s,k,m⟩=>?_
  obtain ⟨b,d,j⟩:=e r h' p
  exact ⟨v,b,h',g',q,d,s,k,j _ _ m⟩
theorem ZU {e:Nat} {rows:List (List AV)} (c:ACalls P f ar h λr h'=>(r= .sl e rows∨r= .v (.slice none 0 0)/\rows=[])/\h'=h):ACalls P f ar h λr h'=>r= .sl e rows/\h'=h:=
 Jt c λr h' ⟨q,a⟩=>by
  rcases q with rfl | ⟨rfl,rfl⟩
  ·exact ⟨_,⟨rfl,a⟩,.refl _⟩
  ·exact ⟨_,⟨rfl,a⟩,.nil e⟩
theorem QB {rs:List ResultVar} {T:Env} {h0 h':List Ob} {ty e:Nat} {x:AV} {rows:List (List AV)} (c:JJ P T h' rs=some x) (a:Pre h0 h') (d:OwnS h0 h' ty e x rows):jka P rs h0 (λr h''=>∃L,h''=h0++L/\NoRes L/\New h0 e r rows L) .ret T h':=by
 obtain ⟨L,rfl,b⟩:=a
 exact ⟨x,c,.inl ⟨L,rfl,b,d.new (Nat.le_refl _)⟩⟩
end Go.Proofs.YtigdlmpjijhpaaaGreat.Ax
namespace Go.Proofs.YtigdlmpjijhpaaaGreat.Ax
open Go Go.Proofs
set_option maxRecDepth 100000
def spv (l:List Spn):AV:= .sl 2 (l.map zz)
theorem qC {h:List Ob} (l:List Spn):SlOf h (spv l) 2 (l.map zz):=⟨rfl,λ_=>rfl⟩
theorem kSa {h:List Ob} (l:List Spn):zo h (spv l)=some (l.map zz):=rfl
theorem Q2a {h:List Ob} (l:List Spn):eOf h (spv l)=some 2:=rfl
theorem wCa (l:List Spn):AV.one (spv l)=true:=rfl
theorem j4a (l:List Spn):AV.cells (spv l)=some [spv l]:=rfl
theorem yj {n:Nat}:∀l:List Spn,qb n (l.map zz)=true
 | []=>rfl
 | s::l=>by
   rw[List.map_cons,qb,yj l];rfl
theorem yV {n:Nat} (l:List Spn):(spv l).lt n=true:=yj l
attribute [go_sem] kSa Q2a wCa j4a
theorem yW (h:List Ob) (x:AV) (l:List Spn) (a:SlOf h x 2 (l.map zz)) (b:l.length<1099511627776):
  ACalls Tryz.prog 70 [x] h λr h'=>r=spv (zt l)/\h'=h:=xE (by decide) (yj _) (c65 h x l a b)
theorem yk {l:List Spn} {i:Nat} (h:i<l.length):(l.map zz)[i]? =some (zz l[i]):=by rw[List.getElem?_map,List.getElem?_eq_getElem h];rfl
theorem kTa {h:List Ob} {i id ty f e st:Nat} {d:List AV} {rows:List (List AV)} (c:h[i]? =some (.box ty d)) (b:h[id]? =some (.row f e rows st)) (M:List Ob) (o:Ob):((h++M).set id o)[i]? =some (.box ty d):=by
 have a:id≠i:=λq=>by rw[q,c] at b;cases b
 rw[List.getElem?_set_ne a]
 exact zb c
theorem Zsa (h:List Ob) (x y:AV) (a b:List Spn) (hx:SlOf h x 2 (a.map zz)) (hy:SlOf h y 2 (b.map zz)) (ha:a.length<1048576) (hb:b.length<1048576):
  ACalls Tryz.prog 192 [x,y] h λr h'=>r=spv (QZ a b)/\h'=h:=by
 refine zf Tryz.f192 [.tmp 4] 42 rfl rfl rfl rfl rfl rfl (by decide) (⟨_,_,⟨rfl,rfl⟩,.refl⟩) λB=>?_
 simp only[go_sem]
 refine zd (yW _ x a hx (by omega)) ?_
 rintro _ I ⟨rfl,rfl⟩
 obtain ⟨u,hu⟩:∃u,u=zt a:=⟨_,rfl⟩
 obtain ⟨v,hv⟩:∃v,v=zt b:=⟨_,rfl⟩
 have ξ:u.length<1048576:=by have:=zq a;rw[hu];omega
 have κ:v.length<1048576:=by have:=zq b;rw[hv];omega
 rw[<-hu]
 have hand:QZ a b=zt (vj u v):=by rw[hu,hv];rfl
 rw[hand]
 simp only[go_sem,List.length_map]
 refine zk (by decide) (λm T h'=>∃i:Nat,i<=u.length/\Pre I h'/\OwnS I h' 143 2 (T 5) ((vj (u.take i) v).map zz)/\T 1=y/\T 11=spv u/\T 12=i64 u.length/\T 13=i64 i/\m=u.length - i) u.length
  ⟨0,by omega,Pre.refl,.inl ⟨by simp only[go_sem],rfl⟩,by simp only[go_sem],by simp only[go_sem],by (simp only[go_sem]<;>rfl),by (simp only[go_sem]<;>rfl),rfl⟩ ?_
 rintro m T h' ⟨i,hi,l,p,t1,f,d,c,rfl⟩
 simp only[go_sem,d,c]
 refine ways (λe=>?_) (λe=>?_)
 ·have Q:=dlt e
  have t:=yk Q
  have Z:(i:Int)<u.length:=by omega
  have s:=zQa (u.take i) v u[i]
  rw[List.take_append_getElem Q] at s
  have A:(vj (u.take i) v).length<=1048576*1048576:=by
   rw[K9,List.length_take]
   exact Nat.mul_le_mul (by omega) (by omega)
  obtain ⟨z,hz⟩:∃z,z=u[i]:=⟨_,rfl⟩
  rw[<-hz] at t s
  obtain ⟨J,V⟩:∃J,J=vj (u.take i) v:=⟨_,rfl⟩
  rw[<-V] at p s A
  simp only[go_sem,t1,f,c,t,Z,List.length_map,Int.toNat_natCast,Int.natCast_nonneg]
  refine zd (yW _ y b ((l.app (zj rfl)).sl hy) (by omega)) ?_
  rintro _ h6 ⟨rfl,rfl⟩
  rw[<-hv]
  simp only[go_sem,List.length_map]
  obtain ⟨G,o⟩:∃G,G=h'++[Ob.box 143 (zz z)]:=⟨_,rfl⟩
  rw[show h'++[Ob.box 143 [i64 z.from_,i64 z.to_]]=G from o.symm]
  have N:G[h'.length]? =some (.box 143 (zz z)):=by rw[o];exact zm rfl
  have δ:=l.len
  have R:Pre I G:=by rw[o];exact l.app (zj rfl)
  have S:OwnS I G 143 2 (T 5) (J.map zz):=by rw[o];exact p.app _
  refine zk (by decide) (λm n H=>∃j:Nat,j<=v.length/\Pre I H/\OwnS I H 143 2 (n 5) ((J++(v.take j).map (vP z)).map zz)/\H[h'.length]? =some (.box 143 (zz z))/\n 1=y/\n 7= .ptr h'.length 0/\n 11=spv u/\n 12=i64 u.length/\n 13=i64 i/\n 18=spv v/\n 19=i64 v.length/\n 20=i64 j/\m=v.length - j) v.length
   ⟨0,by omega,R,by (simp only[go_sem];simpa using S),N,by simp only[go_sem,t1],by simp only[go_sem],by simp only[go_sem,f],by simp only[go_sem,d],by simp only[go_sem,c],by simp only[go_sem],by (simp only[go_sem]<;>rfl),by (simp only[go_sem]<;>rfl),rfl⟩ ?_
  clear l p R S t1 f d c N
  rintro m n H ⟨j,hj,l,p,U,t1,t7,f,d,c,P,E,D,rfl⟩
  simp only[go_sem,E,D]
  refine ways (λe=>?_) (λe=>?_)
  ·have w:=dlt e
   have g:=yk w
   have C:(j:Int)<v.length:=by omega
   have k:(v.take (j+1)).map (vP z)=(v.take j).map (vP z)++[vP z v[j]]:=by rw[<-List.take_append_getElem w,List.map_append];rfl
   obtain ⟨q,hq⟩:∃q,q=v[j]:=⟨_,rfl⟩
   rw[<-hq] at g k
   have hA:List.length (zz (vP z q))=2:=rfl
   have O:∀M,(H++M)[h'.length]? =some (.box 143 (zz z)):=λM=>zb U
   have F:(J.length+min j v.length+1)*17<=140737488355328:=by omega
   rcases p with ⟨t5,K⟩ | ⟨id,st,u1,t5,u3⟩
   ·simp only[go_sem,t5,t7,P,D,O,g,C,List.length_map,Int.toNat_natCast,Int.natCast_nonneg,yb,w9]
    refine ⟨v.length - (j+1),by omega,j+1,by omega,l.app (zg rfl (zg rfl (zj rfl))),.inr ⟨_,_,by have:=l.len;omega,rfl,?_⟩,t1,f,d,c,E,zw (by omega) rfl,rfl⟩
    rw[k, <-List.append_assoc,List.map_append,K,zl rfl]
    rfl
   ·have hg:∀M,(H++M)[id]? =some (.row 143 2 ((J++(v.take j).map (vP z)).map zz) st):=λM=>zb u3
    simp only[go_sem,t5,t7,P,D,O,hg,F,g,C,List.length_map,List.length_take,Int.toNat_natCast,Int.natCast_nonneg,yb,w9]
    refine ⟨v.length - (j+1),by omega,j+1,by omega,(l.app (zg rfl (zj rfl))).set u1 rfl,.inr ⟨id,st+1,u1,rfl,?_⟩,kTa U u3 _ _,t1,f,d,c,E,zw (by omega) rfl,rfl⟩
    rw[k, <-List.append_assoc,List.map_append (l₂:=[vP z q])]
    exact zh (hg _)
  ·have W:=jk e
   have X:j=v.length:=by omega
   subst X
   rw[List.take_length, <-s] at p
   simp only[go_sem,c]
   exact ⟨u.length - (i+1),by omega,i+1,by omega,l,p,t1,f,d,zw (by omega) rfl,rfl⟩
 ·have W:=jk e
  have Y:i=u.length:=by omega
  subst Y
  rw[List.take_length] at p
  have A:(vj u v).length<=1048575*1048575:=by
   rw[K9]
   exact Nat.mul_le_mul (by omega) (by omega)
  simp only[go_sem]
  refine zd (yW _ _ (vj u v) p.rows (by omega)) ?_
  rintro _ h6 ⟨rfl,rfl⟩
  simp only[go_sem]
  obtain ⟨L,rfl,_⟩:=l
  exact ze (by simp only[go_sem]) (yV _)
set_option maxRecDepth 100000
theorem qKa (h:List Ob) (x:AV) (l:List Spn) (a:SlOf h x 2 (l.map zz)) (b:l.length<1048576):
  ACalls Tryz.prog 22 [x] h λr h'=>r=i64 (qf (zt l))/\h'=h:=c30 h x l a b
def jR (l:List Spn) (n size:Int):List Spn:=if n<0∨n>32054400 / size then [] else QZ l [⟨n*size,(n+1)*size⟩]
theorem Zta (h:List Ob) (x:AV) (l:List Spn) (n size:Int) (m:SlOf h x 2 (l.map zz)) (o:l.length<1048576) (d:size=86400∨size=604800):
  ACalls Tryz.prog 189 [x,i64 n,i64 size] h λr h'=>(r=spv (jR l n size)∨r= .v (.slice none 0 0)/\jR l n size=[])/\h'=h:=by
 have e:IntKind.wrap .i64 (Int.tdiv 32054400 size)=32054400 / size:=by rcases d with rfl | rfl<;>rfl
 have h0:¬ size=0:=by omega
 have i:32054400 / size<=371:=by rcases d with rfl | rfl<;>decide
 have hex:∃r h',((r=spv (jR l n size)∨r=AV.v (.slice none 0 0)/\jR l n size=[])/\h'=h)/\ResK h h':=⟨_,_,⟨.inl rfl,rfl⟩,.refl⟩
 refine zf Tryz.f189 [.tmp 6] 26 rfl rfl rfl rfl rfl rfl (by decide) (hex) λB=>?_
 simp only[go_sem]
 cases b:decide (n<0)
 ·have g:¬ n<0:=of_decide_eq_false b
  cases c:decide (n>32054400 / size)
  ·have f:¬ n>32054400 / size:=of_decide_eq_false c
   have a:jR l n size=QZ l [⟨n*size,(n+1)*size⟩]:=by unfold jR;rw[if_neg (by omega)]
   have s:n*size<=371*604800/\0<=n*size/\(n+1)*size<=372*604800/\0<=(n+1)*size:=by
    rcases d with rfl | rfl<;>omega
   have j:IntKind.wrap .i64 (n*size)=n*size:=zF (n:=n*size) (by unfold Fit;omega)
   have k:IntKind.wrap .i64 (n+1)=n+1:=zF (n:=n+1) (by unfold Fit;omega)
   have p:IntKind.wrap .i64 ((n+1)*size)=(n+1)*size:=zF (n:=(n+1)*size) (by unfold Fit;omega)
   simp only[go_sem,b,c,e,h0,zL,j,k,p]
   refine zd (Zsa _ x _ l [⟨n*size,(n+1)*size⟩] (m.app _) (OwnS.rows (h0:=h) (ty:=143) (.inr ⟨_,_,Nat.le_refl _,rfl,by rw[zm rfl];rfl⟩)) o (by simp)) ?_
   rintro _ q ⟨rfl,rfl⟩
   simp only[go_sem]
   exact ⟨spv (jR l n size),by (simp only[go_sem];rw[a]),.inr ⟨h,_,rfl,rfl,yV _,.refl,.inl rfl,rfl⟩⟩
  ·have f:=of_decide_eq_true c
   have a:jR l n size=[]:=by unfold jR;rw[if_pos (by omega)]
   simp only[go_sem,b,c,e,h0,zL]
   exact ⟨_,by simp only[go_sem],.inl ⟨.inr ⟨rfl,a⟩,rfl⟩⟩
 ·have g:=of_decide_eq_true b
  have a:jR l n size=[]:=by unfold jR;rw[if_pos (by omega)]
  simp only[go_sem,b,e,h0,zL]
  exact ⟨_,by simp only[go_sem],.inl ⟨.inr ⟨rfl,a⟩,rfl⟩⟩
theorem yLa (h:List Ob) (x:AV) (l:List Spn) (n size:Int) (a:SlOf h x 2 (l.map zz)) (c:l.length<1048576) (b:size=86400∨size=604800):
  ACalls Tryz.prog 189 [x,i64 n,i64 size] h λr h'=>r=spv (jR l n size)/\h'=h:=
 ZU ((Zta h x l n size a c b).mono λr h' ⟨q,e⟩=>⟨q.imp_right λq=>⟨q.1,by rw[q.2];rfl⟩,e⟩)
def qI (l:List Spn) (d:Int):List Spn:=jR l d 86400
def zH (l:List Spn) (k:Int):List Spn:=jR l k 604800
theorem zSa (h:List Ob) (x:AV) (l:List Spn) (d:Int) (a:SlOf h x 2 (l.map zz)) (b:l.length<1048576):
  ACalls Tryz.prog 241 [x,i64 d] h λr h'=>r=spv (qI l d)/\h'=h:=by
 refine zf Tryz.f241 [.tmp 4] 8 rfl rfl rfl rfl rfl rfl (by decide) (⟨_,_,⟨rfl,rfl⟩,.refl⟩) λB=>?_
 simp only[go_sem]
 refine zd (yLa h x l d 86400 a b (.inl rfl)) ?_
 rintro _ c ⟨rfl,rfl⟩
 simp only[go_sem]
 exact zc (by simp only[go_sem];rfl)
theorem qLa (h:List Ob) (x:AV) (l:List Spn) (k:Int) (a:SlOf h x 2 (l.map zz)) (b:l.length<1048576):
  ACalls Tryz.prog 117 [x,i64 k] h λr h'=>r=spv (zH l k)/\h'=h:=by
 refine zf Tryz.f117 [.tmp 4] 8 rfl rfl rfl rfl rfl rfl (by decide) (⟨_,_,⟨rfl,rfl⟩,.refl⟩) λB=>?_
 simp only[go_sem]
 refine zd (yLa h x l k 604800 a b (.inr rfl)) ?_
 rintro _ c ⟨rfl,rfl⟩
 simp only[go_sem]
 exact zc (by simp only[go_sem];rfl)
theorem wL (l:List Spn) (n size:Int):(jR l n size).length<=(zt l).length+1:=by
 unfold jR
 split
 ·simp
 ·have b:=XQ l [⟨n*size,(n+1)*size⟩]
  have a:=zq [(⟨n*size,(n+1)*size⟩:Spn)]
  simp at a
  omega
def qx (n:Int):Int:=ofI n 86400
theorem Q3a (n:Int):jf Tryz.prog 240 [i64 n] (i64 (qx n)):=λh=>by
 refine zf Tryz.f240 [.tmp 2] 5 rfl rfl rfl rfl rfl rfl (by decide) (⟨_,_,⟨rfl,rfl⟩,.refl⟩) λB=>?_
 simp only[go_sem]
 refine zd (c51 n 86400 (by decide) _) ?_
 rintro _ a ⟨rfl,rfl⟩
 simp only[go_sem]
 (first | refine zc ?_ | refine ze ?_ (by rfl))<;>(simp only[go_sem,qx]<;>try rfl)
def vQ:List Spn->List Spn->Int->List Spn
 | o,[],_=>o
 | o,s::r,n=>if n<=0 then o else vQ (o++[xU s n]) r (n - ((xU s n).to_ - s.from_))
theorem Yf:∀(l o:List Spn) (n:Int),vQ o l n=o++kz l n
 | [],o,n=>by simp[vQ,kz]
 | s::r,o,n=>by
   rw[vQ,kz]
   split
   ·simp
   ·rw[Yf r];simp
theorem Yg {v o:List Spn} {i:Nat} {n:Int} (a:i<v.length):vQ o (v.drop i) n=if n<=0 then o else vQ (o++[xU v[i] n]) (v.drop (i+1)) (n - ((xU v[i] n).to_ - (v[i]).from_)):=by
 rw[List.drop_eq_getElem_cons a,vQ]
theorem wDa (h:List Ob) (x:AV) (l:List Spn) (n:Int) (R:SlOf h x 2 (l.map zz)) (hl:l.length<1048576) (S:Fit n):
  ACalls Tryz.prog 187 [x,i64 n] h λr h'=>∃L,h'=h++L/\NoRes L/\New h 2 r ((zC l n).map zz) L:=by
 have hex:∃r h',(∃L,h'=h++L/\NoRes L/\New h 2 r ((zC l n).map zz) L)/\ResK h h':=
  ⟨.sl 2 _,_,⟨[],rfl,jN,λ_ _=>⟨rfl,λ_=>rfl⟩⟩,zW⟩
 refine zf Tryz.f187 [.tmp 4] 38 rfl rfl rfl rfl rfl rfl (by decide) (hex) λB=>?_
 simp only[go_sem]
 refine zd (yW _ x l R (by omega)) ?_
 rintro _ I ⟨rfl,rfl⟩
 have f:zC l n=vQ [] ((zt l).drop 0) n:=by rw[Yf];rfl
 have p:= @jC l
 rw[f]
 obtain ⟨v,O⟩:∃v,v=zt l:=⟨_,rfl⟩
 have V:v.length<1048576:=by have:=zq l;rw[O];omega
 rw[<-O] at p⊢
 obtain ⟨W,K⟩:∃W,W=vQ [] (v.drop 0) n:=⟨_,rfl⟩
 rw[<-K]
 simp only[go_sem,List.length_map]
 refine zk (by decide) (λm T h'=>∃(i:Nat) (o:List Spn) (k:Int),i<=v.length/\o.length<=i/\Fit k/\vQ o (v.drop i) k=W/\Pre I h'/\OwnS I h' 143 2 (T 4) (o.map zz)/\T 1=i64 k/\T 8=spv v/\T 9=i64 v.length/\T 10=i64 i/\m=v.length - i) v.length
  ⟨0,[],n,by omega,by simp,S,K.symm,Pre.refl,.inl ⟨by simp only[go_sem],rfl⟩,by simp only[go_sem],by simp only[go_sem],by (simp only[go_sem]<;>rfl),by (simp only[go_sem]<;>rfl),rfl⟩ ?_
 rintro m T h' ⟨i,o,k,hi,Y,w,a,s,D,t1,t8,t9,t10,rfl⟩
 simp only[go_sem,t9,t10]
 refine ways (λe=>?_) (λe=>?_)
 ·have d:=dlt e
  have b:=yk d
  have C:(i:Int)<v.length:=by omega
  have X:=p _ (List.getElem_mem d)
  rw[Yg d] at a
  obtain ⟨z,U⟩:∃z,z=v[i]:=⟨_,rfl⟩
  rw[<-U] at b a X
  simp only[go_sem,t1,t8,t10,b,C,List.length_map,Int.toNat_natCast,Int.natCast_nonneg]
  refine ways (λc=>?_) (λc=>?_)
  ·have c:k<=0:=of_decide_eq_true c
   rw[if_pos c] at a
   simp only[go_sem]
   subst a
   exact QB (by simp only[go_sem]) (s.app (zj rfl)) (D.app _)
  ·have c:¬ k<=0:=of_decide_eq_false c
   rw[if_neg c] at a
   obtain ⟨y,E⟩:∃y,y=xU z k:=⟨_,rfl⟩
   have j:y.from_=z.from_:=by rw[E];rfl
   have u:y.to_=min z.to_ (z.from_+min k 32054400):=by rw[E];rfl
   have G:IntKind.wrap .i64 (z.from_+min k 32054400)=z.from_+min k 32054400:=zF (n:=z.from_+min k 32054400) (by unfold Fit at w ⊢;omega)
   have H:IntKind.wrap .i64 (y.to_ - z.from_)=y.to_ - z.from_:=zF (n:=y.to_ - z.from_) (by unfold Fit at w ⊢;omega)
   have F:IntKind.wrap .i64 (k - (y.to_ - z.from_))=k - (y.to_ - z.from_):=zF (n:=k - (y.to_ - z.from_)) (by unfold Fit at w ⊢;omega)
   have q:Fit (k - (y.to_ - z.from_)):=by unfold Fit at w ⊢;omega
   rw[<-E] at a
   have Z:List.length (zz y)=2:=rfl
   have t:(o.length+1)*17<=140737488355328:=by omega
   rcases D with ⟨t4,g⟩ | ⟨id,st,N,t4,P⟩
   ·simp only[go_sem,t1,t4,t8,t10,List.length_map,w9,G, <-u,H,F]
    refine ⟨v.length - (i+1),by omega,i+1,o++[y],_,by omega,by simp;omega,q,a,s.app (zg rfl (zg rfl (zj rfl))),.inr ⟨_,_,by have:=s.len;omega,rfl,?_⟩,rfl,t9,zw (by omega) rfl,rfl⟩
    rw[List.map_append,g,zl rfl, <-j]
    rfl
   ·have J:∀M,(h'++M)[id]? =some (.row 143 2 (o.map zz) st):=λM=>zb P
    simp only[go_sem,t1,t4,t8,t10,J,t,List.length_map,w9,G, <-u,H,F]
    refine ⟨v.length - (i+1),by omega,i+1,o++[y],_,by omega,by simp;omega,q,a,(s.app (zg rfl (zj rfl))).set N rfl,.inr ⟨id,st+1,N,rfl,?_⟩,rfl,t9,zw (by omega) rfl,rfl⟩
    rw[List.map_append, <-j]
    exact zh (J _)
 ·have Q:=jk e
  have A:i=v.length:=by omega
  subst A
  rw[List.drop_length,vQ] at a
  subst a
  simp only[go_sem]
  exact QB (by simp only[go_sem]) s D
theorem V2 (h:List Ob) (x:AV) (l:List Spn) (n:Int) (a:SlOf h x 2 (l.map zz)) (b:l.length<1048576) (c:Fit n):
  ACalls Tryz.prog 187 [x,i64 n] h λr h'=>r=spv (zC l n)/\h'=h:=xE (by decide) (yj _) (wDa h x l n a b c)
end Go.Proofs.YtigdlmpjijhpaaaGreat.Ax
namespace Go.Proofs.YtigdlmpjijhpaaaGreat.Ax
open Go Go.RowKit
structure LIn (F:List (Nat × Ob)) (h0 h:List Ob) (i bty ty e:Nat) (rows:List (List AV)):Prop where
 pre:Pre h0 h
 le:h0.length<=i
 kept:∀z∈F,z.1≠i/\(∃t cs,z.2= .box t cs)/\h[z.1]? =some z.2
 at_:∃x,h[i]? =some (.box bty [x])/\OwnS h0 h ty e x rows
variable {F:List (Nat × Ob)} {h0 h:List Ob} {i bty ty e:Nat} {rows rows':List (List AV)}
theorem LIn.app (k:LIn F h0 h i bty ty e rows) {M:List Ob} (b:NoRes M):LIn F h0 (h++M) i bty ty e rows:=by
 obtain ⟨k1,k2,k3,x,k4,k5⟩:=k
 exact ⟨k1.app b,k2,λz a=>⟨(k3 z a).1,(k3 z a).2.1,zb (k3 z a).2.2⟩,x,zb k4,k5.app M⟩
theorem LIn.lt (k:LIn F h0 h i bty ty e rows):i<h.length:=by
 obtain ⟨x,k4,_⟩:=k.at_
 exact (List.getElem?_eq_some_iff.1 k4).1
theorem LIn.push_nil (k:LIn F h0 h i bty ty e rows) {M:List Ob} (c:NoRes M) {id:Nat} (hid:h.length<=id) (b:(h++M)[id]? =some (.row ty e rows' 0)):LIn F h0 ((h++M).set i (.box bty [.tl id 0])) i bty ty e rows':=by
 have f:=k.lt
 have d:=k.pre.len
 have k':=k.app c
 refine ⟨k'.pre.set k.le rfl,k.le,λz a=>⟨(k.kept z a).1,(k.kept z a).2.1,?_⟩,.tl id 0,?_,.inr ⟨id,0,by omega,rfl,?_⟩⟩
 ·rw[List.getElem?_set_ne (Ne.symm (k.kept z a).1)];exact (k'.kept z a).2.2
 ·rw[List.getElem?_set_self (by rw[List.length_append];omega)]
 ·rw[List.getElem?_set_ne (by omega)];exact b
theorem LIn.push_own (k:LIn F h0 h i bty ty e rows) {M:List Ob} (g:NoRes M) {id st:Nat} (hid:h0.length<=id) (a:h[id]? =some (.row ty e rows st)):LIn F h0 (((h++M).set id (.row ty e rows' (st+1))).set i (.box bty [.tl id (st+1)])) i bty ty e rows':=by
 have p:=k.lt
 have r:=k.pre.len
 have k':=k.app g
 obtain ⟨x,l,_⟩:=k.at_
 have c:id≠i:=λq=>by rw[q,l] at a;cases a
 have n:=(List.getElem?_eq_some_iff.1 a).1
 refine ⟨(k'.pre.set hid rfl).set k.le rfl,k.le,λz b=>⟨(k.kept z b).1,(k.kept z b).2.1,?_⟩,.tl id (st+1),?_,.inr ⟨id,st+1,hid,rfl,?_⟩⟩
 ·obtain ⟨m,⟨t,o,f⟩,j⟩:=k.kept z b
  have d:id≠z.1:=λq=>by rw[q,j,f] at a;cases a
  rw[List.getElem?_set_ne (Ne.symm m),List.getElem?_set_ne d]
  exact (k'.kept z b).2.2
 ·rw[List.getElem?_set_self (by rw[List.length_set,List.length_append];omega)]
 ·rw[List.getElem?_set_ne (Ne.symm c),List.getElem?_set_self (by rw[List.length_append];omega)]
theorem LIn.any (k:LIn F h0 h i bty ty e rows) (rows':List (List AV)):∃h',LIn F h0 h' i bty ty e rows'/\ResK h h':=by
 have q:=k.push_nil (M:=[.row ty e rows' 0]) (zj rfl) (id:=h.length) (Nat.le_refl _) (by rw[zm rfl];rfl)
 exact ⟨_,q,k.pre.resK q.pre⟩
theorem LIn.keep (k:LIn F h0 h i bty ty e rows) {z:Nat × Ob} (a:z∈F):h[z.1]? =some z.2:=(k.kept z a).2.2
end Go.Proofs.YtigdlmpjijhpaaaGreat.Ax
namespace Go.Proofs.YtigdlmpjijhpaaaGreat.Ax
open Go Go.Proofs
set_option maxRecDepth 100000
def yl (o:List Int) (d:Int):List Int:=match o.getLast? with
 | none=>[d]
 | some x=>if x<d then o++[d] else o
theorem kUa (o:List Int) (d:Int):(yl o d).length<=o.length+1:=by
 unfold yl
 split
 ·simp
 ·split<;>simp
def ZV (o:List Int) (a:Int):Nat->List Int
 | 0=>o
 | k+1=>yl (ZV o a k) (a+k)
theorem XT (o:List Int) (a:Int):∀k,(ZV o a k).length<=o.length+k
 | 0=>Nat.le_refl _
 | k+1=>by
   have b:=XT o a k
   have c:=kUa (ZV o a k) (a+k)
   rw[ZV];omega
def jx (o:List Int) (s:Spn):List Int:=ZV o (qx s.from_) (qx (s.to_ - 1) - qx s.from_+1).toNat
def zD (l:List Spn):List Int:=(zt l).foldl jx []
theorem kA (n:Int):0<=qx n/\qx n<371:=by
 unfold qx ofI zO
 have h0:0<=min (max n 0) 32054399/\min (max n 0) 32054399<=32054399:=by omega
 rw[Int.tdiv_eq_ediv_of_nonneg h0.1,zF (by unfold Fit;omega)]
 omega
theorem Yh (o:List Int) (s:Spn):(jx o s).length<=o.length+372:=by
 have a:=XT o (qx s.from_) (qx (s.to_ - 1) - qx s.from_+1).toNat
 have c:=kA s.from_
 have b:=kA (s.to_ - 1)
 unfold jx
 omega
theorem Zua (F:List (Nat × Ob)) (h0 h:List Ob) (i:Nat) (o:List Int) (d:Int) (k:LIn F h0 h i 27 3 1 (o.map zJ)) (K:o.length<1099511627776):
  ACalls Tryz.prog 239 [i64 d,.ptr i 0] h λr h'=>r= .tup []/\LIn F h0 h' i 27 3 1 ((yl o d).map zJ):=by
 have hex:∃r h',(r=AV.tup []/\LIn F h0 h' i 27 3 1 ((yl o d).map zJ))/\ResK h h':=by
  obtain ⟨h',I,E⟩:=k.any ((yl o d).map zJ)
  exact ⟨_,h',⟨rfl,I⟩,E⟩
 obtain ⟨x,c,n⟩:=k.at_
 have g:zo h x=some (o.map zJ):=n.rows.rows
 have J:List.length (zJ d)=1:=rfl
 have e:(o.length+1)*9<=140737488355328:=by omega
 refine zf Tryz.f239 [] 21 rfl rfl rfl rfl rfl rfl (by decide) (hex) λB=>?_
 simp only[go_sem,c,g,List.length_map]
 rcases n with ⟨rfl,l⟩ | ⟨id,st,H,rfl,j⟩
 ·have t:o=[]:=by simpa using l
  subst t
  have b:∀M,(h++M)[i]? =some (.box 27 [.v (.slice none 0 0)]):=λM=>zb c
  simp only[go_sem,c,b]
  exact ⟨_,rfl,.inl ⟨rfl,k.push_nil (zg rfl (zj rfl)) (by omega) (by rw[zl (k:=1) rfl];rfl)⟩⟩
 ·have C:∀M,(h++M)[id]? =some (.row 3 1 (o.map zJ) st):=λM=>zb j
  have b:∀M,(h++M)[i]? =some (.box 27 [.tl id st]):=λM=>zb c
  have s:id≠i:=λq=>by rw[q,c] at j;cases j
  have f:∀M o',((h++M).set id o')[i]? =some (.box 27 [.tl id st]):=λM o'=>by
   rw[List.getElem?_set_ne s];exact b M
  have app:∀M,NoRes M->yl o d=o++[d]->LIn F h0 (((h++M).set id (.row 3 1 (o.map zJ++[[i64 d]]) (st+1))).set i (.box 27 [.tl id (st+1)])) i 27 3 1 ((yl o d).map zJ):=λM D q=>by
   rw[q,List.map_append]
   exact k.push_own D H j
  cases a:o.getLast? with
  | none=>
    have t:o=[]:=by simpa using a
    subst t
    simp only[go_sem,c]
    simp only[go_sem,b,C,e,f]
    exact ⟨_,rfl,.inl ⟨rfl,app _ (zj rfl) rfl⟩⟩
  | some z=>
    have A:0<o.length:=by cases o with | nil=>cases a | cons _ _=>simp
    have w:(o.map zJ)[o.length - 1]? =some [i64 z]:=by
     rw[List.getElem?_map]
     rw[List.getLast?_eq_getElem?] at a
     rw[a];rfl
    have p:((o.length:Int)==0)=false:=by rw[beq_eq_false_iff_ne];omega
    have y:IntKind.wrap .i64 ((o.length:Int) - 1)=((o.length - 1:Nat):Int):=Qt (by omega) (by omega)
    have m:((o.length - 1:Nat):Int)<o.length:=by omega
    have g:zo h (.tl id st)=some (o.map zJ):=g
    have G:eOf h (.tl id st)=some 1:=by rw[qR,j,vo]
    cases q:decide (z<d)
    ·have u:yl o d=o:=by unfold yl;rw[a];simp only;rw[if_neg (of_decide_eq_false q)]
     simp only[go_sem,p,c,j,y,w,m,zL,q,List.length_map,Int.toNat_natCast,Int.natCast_nonneg]
     exact ⟨_,rfl,.inl ⟨rfl,by rw[u];exact k⟩⟩
    ·have u:yl o d=o++[d]:=by unfold yl;rw[a];simp only;rw[if_pos (of_decide_eq_true q)]
     simp only[go_sem,p,c,j,y,w,m,zL,q,List.length_map,Int.toNat_natCast,Int.natCast_nonneg]
     simp only[go_sem,b,C,e,f,List.length_map]
     exact ⟨_,rfl,.inl ⟨rfl,app _ (zj rfl) u⟩⟩
theorem Zva (h:List Ob) (x:AV) (l:List Spn) (V:SlOf h x 2 (l.map zz)) (hl:l.length<1048576):
  ACalls Tryz.prog 182 [x] h λr h'=>∃L,h'=h++L/\NoRes L/\New h 1 r ((zD l).map zJ) L:=by
 have hex:∃r h',(∃L,h'=h++L/\NoRes L/\New h 1 r ((zD l).map zJ) L)/\ResK h h':=
  ⟨.sl 1 _,_,⟨[],rfl,jN,λ_ _=>⟨rfl,λ_=>rfl⟩⟩,zW⟩
 refine zf Tryz.f182 [.cell 2 27] 37 rfl rfl rfl rfl rfl rfl (by decide) (hex) λB=>?_
 simp only[go_sem]
 refine zd (yW _ x l (V.app _) (by omega)) ?_
 rintro _ h4 ⟨rfl,rfl⟩
 have t:zD l=((zt l).take (zt l).length).foldl jx []:=by rw[List.take_length];rfl
 have u:= @jC l
 rw[t]
 obtain ⟨v,R⟩:∃v,v=zt l:=⟨_,rfl⟩
 have Y:v.length<1048576:=by have:=zq l;rw[R];omega
 rw[<-R] at u⊢
 obtain ⟨W,Q⟩:∃W,W=(v.take v.length).foldl jx []:=⟨_,rfl⟩
 rw[<-Q]
 simp only[go_sem,List.length_map]
 refine zk (by decide) (λm T h'=>∃(i:Nat) (o:List Int),i<=v.length/\o=(v.take i).foldl jx []/\o.length<=372*i/\LIn [] h h' h.length 27 3 1 (o.map zJ)/\T 2= .ptr h.length 0/\T 3= .fn (.func 239) [] [.ptr h.length 0]/\T 10=spv v/\T 11=i64 v.length/\T 12=i64 i/\m=v.length - i) v.length
  ⟨0,[],by omega,rfl,by simp,⟨⟨_,rfl,zj rfl⟩,Nat.le_refl _,(λz G=>by cases G),_,by rw[zm rfl];rfl,.inl ⟨rfl,rfl⟩⟩,by simp only[go_sem],by simp only[go_sem],by simp only[go_sem],by (simp only[go_sem]<;>rfl),by (simp only[go_sem]<;>rfl),rfl⟩ ?_
 rintro m T h' ⟨i,o,hi,J,η,k,t2,t3,t10,d,b,rfl⟩
 simp only[go_sem,d,b]
 refine ways (λe=>?_) (λe=>?_)
 ·have s:=dlt e
  have g:=yk s
  have I:(i:Int)<v.length:=by omega
  have hb:=u _ (List.getElem_mem s)
  have A:(v.take (i+1)).foldl jx []=jx o v[i]:=by rw[<-List.take_append_getElem s,List.foldl_append, <-J];rfl
  obtain ⟨z,G⟩:∃z,z=v[i]:=⟨_,rfl⟩
  rw[<-G] at g A hb
  simp only[go_sem,t10,b,g,I,List.length_map,Int.toNat_natCast,Int.natCast_nonneg]
  refine zd (Q3a z.from_ _) ?_
  rintro _ N ⟨rfl,rfl⟩
  have Z:IntKind.wrap .i64 (z.to_ - 1)=z.to_ - 1:=zF (n:=z.to_ - 1) (by unfold Fit;omega)
  simp only[go_sem,Z]
  refine zd (Q3a (z.to_ - 1) _) ?_
  rintro _ N ⟨rfl,rfl⟩
  have r1:=kA z.from_
  have r2:=kA (z.to_ - 1)
  have w2:IntKind.wrap .i64 (qx (z.to_ - 1) - qx z.from_)=qx (z.to_ - 1) - qx z.from_:=zF (n:=qx (z.to_ - 1) - qx z.from_) (by unfold Fit;omega)
  have X:IntKind.wrap .i64 (qx (z.to_ - 1) - qx z.from_+1)=qx (z.to_ - 1) - qx z.from_+1:=zF (n:=qx (z.to_ - 1) - qx z.from_+1) (by unfold Fit;omega)
  simp only[go_sem,w2,X]
  obtain ⟨a,M⟩:∃a,a=qx z.from_:=⟨_,rfl⟩
  obtain ⟨c,P⟩:∃c,c=qx (z.to_ - 1) - qx z.from_+1:=⟨_,rfl⟩
  have C:jx o z=ZV o a c.toNat:=by unfold jx;rw[M,P]
  rw[show qx (z.to_ - 1) - qx z.from_+1=c from P.symm,show qx z.from_=a from M.symm]
  rw[<-M] at r1
  have ζ:c<=371:=by omega
  refine zk (by decide) (λm f K=>∃j:Nat,j<=c.toNat/\LIn [] h K h.length 27 3 1 ((ZV o a j).map zJ)/\f 2= .ptr h.length 0/\f 3= .fn (.func 239) [] [.ptr h.length 0]/\f 6=i64 a/\f 10=spv v/\f 11=i64 v.length/\f 12=i64 i/\f 25=i64 c/\f 26=i64 j/\m=c.toNat - j) c.toNat
   ⟨0,by omega,k.app (zj rfl),by simp only[go_sem,t2],by simp only[go_sem,t3],by simp only[go_sem],by simp only[go_sem,t10],by simp only[go_sem,d],by simp only[go_sem,b],by simp only[go_sem],by (simp only[go_sem]<;>rfl),rfl⟩ ?_
  clear k t2 t3 t10 d b
  rintro m f K ⟨j,hj,k,t2,t3,t6,t10,d,b,t25,q,rfl⟩
  simp only[go_sem,t25,q]
  refine ways (λe=>?_) (λe=>?_)
  ·have O:(j:Int)<c:=of_decide_eq_true e
   have U:IntKind.wrap .i64 (a+j)=a+j:=zF (n:=a+j) (by unfold Fit;omega)
   have ε:=XT o a j
   simp only[go_sem,t3,t6,q,U]
   refine zd (Zua [] h K h.length (ZV o a j) (a+j) k (by omega)) ?_
   rintro _ N ⟨rfl,k6⟩
   simp only[go_sem,q]
   exact ⟨c.toNat - (j+1),by omega,j+1,by omega,k6,t2,t3,t6,t10,d,b,t25,zw (by omega) rfl,rfl⟩
  ·have E:¬ (j:Int)<c:=of_decide_eq_false e
   have F:j=c.toNat:=by omega
   subst F
   simp only[go_sem,b]
   have δ:=Yh o z
   exact ⟨v.length - (i+1),by omega,i+1,jx o z,by omega,A.symm,by omega,by rw[C];exact k,t2,t3,t10,d,zw (by omega) rfl,rfl⟩
 ·have E:=jk e
  have H:i=v.length:=by omega
  subst H
  rw[<-Q] at J
  subst J
  obtain ⟨S,p,y⟩:=k.at_
  have w:=k.pre
  have D:AV.cells S=some [S]:=y.rows.cells
  simp only[go_sem,t2,p,D]
  rw[zZ p]
  exact QB (by simp only[go_sem,t2,p]) w y
theorem kVa {n:Nat}:∀l:List Int,qb n (l.map zJ)=true
 | []=>rfl
 | s::l=>by
   rw[List.map_cons,qb,kVa l];rfl
theorem kWa (h:List Ob) (x:AV) (l:List Spn) (a:SlOf h x 2 (l.map zz)) (b:l.length<1048576):
  ACalls Tryz.prog 182 [x] h λr h'=>r= .sl 1 ((zD l).map zJ)/\h'=h:=xE (by decide) (kVa _) (Zva h x l a b)
end Go.Proofs.YtigdlmpjijhpaaaGreat.Ax
namespace Go.Proofs.YtigdlmpjijhpaaaGreat.Ax
open Go Go.RowKit
section
variable {P:Program} {ops:Array Oper} {Q:Exit->Act->World->Prop}
theorem ZA (l n:Nat) {o:Oper} {a:Act} {w:World} {K K':Act->World->Prop} (p:∀c,o.op≠ .defer c) (d:∀a w,K a w->K' a w) (h:o.wpIn Fence.wide n P a w K Q):o.wpIn (Fence.wide.inRound l) n P a w K' Q:=by
 unfold Oper.wpIn at h⊢
 refine ⟨λ_ _=>trivial,?_⟩
 have h:=h.2
 rw[Oper.semAt_eq _ _ _ p] at h⊢
 generalize (execOp a.eval o).run P w=r at h⊢
 have b:∀row args w' (R k:Value->World->Prop),(∀v w,R v w->k v w)->RowsIn Fence.wide (n - 1) P row args w' R->RowsIn (Fence.wide.inRound l) (n - 1) P row args w' k:=λrow args w' R k s h c t m=>by
  obtain ⟨v,j,i,u⟩:=h c t (room_wide _)
  exact ⟨v,j,s _ _ i,u⟩
 cases r with
 | ok x w'=>
   cases x with
   | value v=>exact d _ _ h
   | skip=>exact d _ _ h
   | enter f ar=>exact ⟨λg=>(by cases g),CallsIn.inRound l (h.2.mono λe j q=>by cases e<;>first | exact d _ _ q | exact q)⟩
   | row r ar=>exact ⟨λg=>(by cases g),b _ _ _ _ _ (λ_ _=>d _ _) h.2⟩
   | round l' f z aZ y=>exact ⟨λg=>(by cases g),(show RoundIn Fence.wide _ P l' f z aZ y _ _ from h.2.mono λe j q=>by cases e<;>first | exact d _ _ q | exact q)⟩
   | _=>first | exact h | exact h.elim | exact d _ _ h
 | halt x w'=>
   cases x<;>first | exact h | exact h.elim
def Zo (ops:Array Oper):Bool:=ops.toList.all λo=>match o.op with | .defer _=>false | _=>true
theorem XV (h:Zo ops=true) {i:Nat} {o:Oper} (a:ops[i]? =some o):∀c,o.op≠ .defer c:=by
 intro c b
 unfold Zo at h
 rw[List.all_eq_true] at h
 have:=h o (by rw[<-Array.getElem?_toList] at a;exact List.mem_of_getElem? a)
 rw[b] at this
 cases this
theorem zTa (l n:Nat) (d:¬ LetsOut Q) (e:Zo ops=true) {i:Nat} {a:Act} {w:World} {K:Act->World->Prop} (h:wpOp P ops Q i K a w):wpOpIn (Fence.wide.inRound l) n P ops Q i K a w:=by
 unfold wpOp at h
 unfold wpOpIn
 cases c:ops[i]? with
 | none=>rw[c] at h;exact h
 | some o=>
   rw[c] at h
   simp only at h⊢
   split
   ·rename_i b
    rw[if_pos b] at h
    rcases h with h | ⟨_,h⟩
    ·exact ZA l n (XV e c) (λ_ _ q=>q) (Zd n h)
    ·exact absurd h d
   ·rename_i b
    rw[if_neg b] at h
    exact ⟨λ_ _=>trivial,h⟩
theorem Ju (l n:Nat) (c:¬ LetsOut Q) (d:Zo ops=true):∀(b:Nat) (listed:Array Bool) (a:Act) (w:World),wpAny P .any ops Q b listed a w->wpAnyIn (Fence.wide.inRound l) n P .any ops Q b listed a w
 | 0,_,_,_,h=>h
 | b+1,_,_,_,h=>⟨h.1,λi f=>zTa l n c d (wpOp_mono (λe w' h'=>Ju l n c d b _ e w' h') (h.2 i f))⟩
theorem XW (b n:Nat):∀(l:List Oper) {a:Act} {w:World},(∀o∈l,∀c,o.op≠ .defer c)->wpListIn Fence.wide n P ops Q l a w->wpListIn (Fence.wide.inRound b) n P ops Q l a w
 | [],_,_,_,h=>h
 | o::l,a,w,e,h=>by
   have f:∀a w,wpListIn Fence.wide n P ops Q l a w->wpListIn (Fence.wide.inRound b) n P ops Q l a w:=λa w=>XW b n l λx g=>e x (.tail _ g)
   unfold wpListIn at h⊢
   split
   ·rename_i d
    rw[if_pos d] at h
    exact ZA b n (e o (.head _)) f h
   ·rename_i d
    rw[if_neg d] at h
    exact ⟨λ_ _=>trivial,f _ _ h.2⟩
end
section
variable {P:Program} {N b:Nat} {T:Env} {h:List Ob} {c c':Code} {ops:Array Oper} {Q Q':jr}
def RWp (P:Program) (N b l:Nat) (c:Code) (Q:jr) (T:Env) (h:List Ob):Prop:=
 ∀(φ:Nat->Ob),Upto φ h.length->∀(w:World) (g:Gh) (a:Act),Rel N ⟨b,[]⟩ w g (fill φ h) a T->c.wpIn (Fence.wide.inRound l) 0 P (λe f w'=>∃d h',Q e d h'/\Aft N ⟨b,[]⟩ φ w g h d h' f w') a w
theorem wFa {l:Nat} (k:RWp P N b l c (kO (RWp P N b l c' Q) Q) T h):RWp P N b l (.seq c c') Q T h:=λφ i w g a r=>by
 refine wpIn_seq (Code.wpIn_mono (λe n w' ⟨t,h',f,d⟩=>?_) (k φ i w g a r))
 have u:=d.len
 cases e<;>first
  | (obtain ⟨g',v,j,q⟩:=d;exact Code.wpIn_mono (λ_ _ _ ⟨m,o,p,s⟩=>⟨m,o,p,s.trans v q⟩) (f φ (i.mono u) w' g' n j))
  | exact ⟨t,h',f,d⟩
theorem Va {l id:Nat} (k:RWp P N b l c (wT id Q) T h):RWp P N b l (.block id c) Q T h:=λφ n w g a r=>by
 refine wpIn_block (Code.wpIn_mono (λe o w' ⟨j,h',d,f⟩=>?_) (k φ n w g a r))
 cases e with
 | exit i=>
   simp only[wT] at d
   simp only[Exit.inBlock]
   split
   ·rename_i m;rw[if_pos m] at d;exact ⟨j,h',d,f⟩
   ·rename_i m;rw[if_neg m] at d;exact ⟨j,h',d,f⟩
 | _=>exact ⟨j,h',d,f⟩
theorem ym {l id:Nat} (d:ops.toList.all (vf N)=true) (j:Zo ops=true) (k:wpR P ops (Q .normal) ops.toList T h):RWp P N b l (.region id ops false) Q T h:=λφ m w g a r=>by
 refine wpIn_region ?_
 rw[List.range_eq_range', <-Array.length_toList,wpOpsIn_eq_wpListIn ops.toList 0 (by simp)]
 refine XW l 0 ops.toList (λo c=>?_) (wB ops.toList d m (qCa _ k) r λe h' w' n k' q=>⟨e,h',k',q⟩)
 obtain ⟨i,f⟩:=List.mem_iff_getElem?.1 c
 exact XV j (i:=i) (by rw[<-Array.getElem?_toList];exact f)
theorem kXa {l id:Nat} (D:P.follows .mixedOrders=true) (L:List Ob) (k:Nat) (c:List Ent) (W:L=List.replicate k .res) (V:ops.toList.all (vf N)=true) (f:Xn ops k c=true) (E:Zo ops=true) (v:∀T h,¬ Q .outgrown T h) (C:wpQ P ops h.length (Q .normal) c T (h++L)):RWp P N b l (.region id ops true) Q T h:=λφ B w g a r=>by
 have kk:=kna _ (W▸C)
 simp only[Xn,Bool.and_eq_true,List.all_eq_true,decide_eq_true_eq,List.contains_eq_mem,List.mem_range] at f
 obtain ⟨⟨⟨⟨⟨G,H⟩,A⟩,I⟩,F⟩,s⟩:=f
 have j:=Good.drew (g:=g) r.ok r.hB
 have y:=QK j.size k j.ok
 have u:=j.trans y
 have z:fill φ (h++List.replicate k .res)=fill φ h++List.replicate k .res:=jh B
 rw[<-z] at u
 have S:Rel N ⟨b,[]⟩ w.drew g (fill φ (h++List.replicate k .res)) a T:=⟨u.ok,u.size,λi=>AR.le u.le _ _ (r.t i),r.d,r.n⟩
 refine wpIn_region_any D (Ju l 0 ?_ E _ _ _ _ ?_)
 ·rintro ⟨a1,w1,T1,h1,Z,_⟩
  exact v _ _ Z
 have R:Rest ops (Array.replicate ops.size false) c:=by
  refine ⟨by simp,F,λi m=>?_,wv c G,λq v=>⟨k,A q v⟩,λi o x M=>?_⟩
  ·simp[Array.getD_eq_getD_getElem?,m]
   have:=I i m
   simpa using this
  ·have m:i<ops.size:=by
    rcases Nat.lt_or_ge i ops.size with h | h
    ·exact h
    ·rw[Array.getElem?_eq_none h] at x;cases x
   simp[Array.getD_eq_getD_getElem?,m] at M
 refine KX (K:=Q .normal) B H V ops.size _ c s R (by simp) (λq v o x O=>?_) kk S λY h' w' g' a' k' U J q=>⟨Y,h',k',g',λi m=>?_,J,u.trans q⟩
 ·obtain ⟨o',e,_,_,X,_⟩:=vI (A q v)
  rw[x] at e
  injection e with e
  subst e
  have:=X O
  rw[List.getElem?_append_right (by omega),Nat.add_sub_cancel_left,List.getElem?_replicate,if_pos this]
 ·have p:=(List.getElem?_eq_some_iff.1 m).1
  exact U i p (by rw[List.getElem?_append_left p];exact m)
abbrev wM:=Exit->List Deferred->Env->List Ob->Prop
def Zt (P:Program) (N b:Nat) (ds:List Deferred) (c:Code) (Q:wM) (T:Env) (h:List Ob):Prop:=
 ∀ (φ:Nat->Ob),Upto φ h.length->∀(w:World) (g:Gh) (a:Act),Rel N ⟨b,ds⟩ w g (fill φ h) a T->
   c.wp P (λe i w'=>∃d f h',Q e d f h'/\∃g',ResK h h'/\Rel N ⟨b,d⟩ w' g' (fill φ h') i f/\Good b w g (fill φ h) w' g' (fill φ h')) a w
variable {ds:List Deferred} {X X':wM}
theorem qMa (k:AWp P N ⟨b,ds⟩ c Q T h) (j:∀e T h,Q e T h->X e ds T h):Zt P N b ds c X T h:=λφ n w g a r=>
 wp_mono (k φ n w g a r) λe o w' ⟨l,h',i,g',f,m,d⟩=>⟨ds,l,h',j _ _ _ i,g',f,m,d⟩
def Q4a (K:List Deferred->Env->List Ob->Prop) (X:wM):wM
 | .normal,ds,T,h=>K ds T h
 | e,ds,T,h=>X e ds T h
theorem XX (k:Zt P N b ds c (Q4a (λd T h=>Zt P N b d c' X T h) X) T h):Zt P N b ds (.seq c c') X T h:=λφ n w g a r=>by
 refine wp_seq (wp_mono (k φ n w g a r) λe p w' ⟨d,u,h',l,g',m,j,i⟩=>?_)
 have v:h.length<=h'.length:=Qi i
 cases e<;>first
  | exact wp_mono (l φ (n.mono v) w' g' p j) λ_ _ _ ⟨f,o,s,q,x,t,z3,z4⟩=>⟨f,o,s,q,x,m.trans t,z3,i.trans z4⟩
  | exact ⟨d,u,h',l,g',m,j,i⟩
theorem Jv {id:Nat} (k:Zt P N b ds c (λe d T h=>e= .normal/\X .normal d T h) T h):Zt P N b ds (.block id c) X T h:=λφ m w g a r=>by
 refine wp_block (wp_mono (k φ m w g a r) λe n w' ⟨d,l,h',⟨i,j⟩,f⟩=>?_)
 subst i
 exact ⟨d,l,h',j,f⟩
end
end Go.Proofs.YtigdlmpjijhpaaaGreat.Ax
