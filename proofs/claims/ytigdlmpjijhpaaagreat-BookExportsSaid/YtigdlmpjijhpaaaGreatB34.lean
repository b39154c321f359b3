import Derived.Test.YtigdlmpjijhpaaaGreatBA
import Derived.Test.YtigdlmpjijhpaaaGreatB19
import Derived.Test.YtigdlmpjijhpaaaGreatB21
import Derived.Test.YtigdlmpjijhpaaaGreatB23
import Derived.Test.YtigdlmpjijhpaaaGreatB10
import Derived.Test.YtigdlmpjijhpaaaGreatB24
import Derived.OrdersIn
import Derived.RangeFuncCalls
import Derived.RangeFuncNested
import Derived.RangeFuncLeaves
set_option linter.all false
namespace Go.Proofs.YtigdlmpjijhpaaaGreat.Ax
open Go
structure FlF (D:List Ev) (t:TellS):Prop where
 flags:∀x∈t.flags,∃e∈D,e.id=x.id
 opn:∀f os,t.open_=some (f,os)->f∈D
section
variable {D:List Ev} {t:TellS} {s:Setup}
theorem FlF.flag(h:FlF D t){e:Ev}(b:e∈D)(k:Int):FlF D (wh t e k):=⟨λx a=>by
 rcases zJ.1 (show x∈t.flags++[⟨e.id,k⟩] from a) with a|a
 ·exact h.flags x a
 ·rw[zN] at a;subst a;exact⟨e,b,rfl⟩,h.opn⟩
theorem FlF.close(h:FlF D t)(f:Ev)(os:List Ev)(at_:Int):FlF D (ZA s t f os at_):=⟨h.flags,λ_ _ q=>by cases q⟩
theorem FlF.late(h:FlF D t)(m:Int):FlF D (jO s t m):=by
 unfold jO
 split
 ·exact h
 ·rename_i e os a
  split
  ·exact(h.flag (h.opn e os a) 1).close e os _
  ·exact h
theorem FlF.next(h:FlF D t){e:Ev}(b:e∈D):FlF D (yK s t e):=by
 have a:=h.late (s:=s) e.at_
 unfold yK
 split
 ·split
  ·exact⟨a.flags,λf os q=>by injection q with q;injection q with q _;rw[<-q];exact b⟩
  ·rename_i f os c
   have d:=(a.flag (a.opn f os c) 2).close (s:=s) f os e.at_
   exact⟨d.flags,λf os q=>by injection q with q;injection q with q _;rw[<-q];exact b⟩
 ·split
  ·exact a.flag b 3
  ·rename_i f os c
   split
   ·exact a.close f os _
   ·exact⟨a.flags,λi g q=>by injection q with q;injection q with q _;rw[<-q];exact a.opn f os c⟩
theorem FlF.go{w:Int}:∀(l:List Ev) {t:TellS},FlF D t->(∀e∈l,e∈D)->FlF D (l.foldl (vM s w) t)
 | [],t,h,_=>h
 | e::l,t,h,a=>by
   rw[List.foldl_cons]
   refine FlF.go l ?_ λx b=>a x (.tail _ b)
   unfold vM
   split
   ·exact h.next (a e (.head _))
   ·exact h
theorem VC{l:List Ev}{w:Int}:∀x∈(qF s l w).2,∃e∈l,e.id=x.id:=by
 unfold qF
 split
 ·have h0:FlF l ⟨none,[],[]⟩:=⟨λx a=>(by cases a),λ_ _ q=>(by cases q)⟩
  have c:FlF l (goP s w (qu l)):=FlF.go _ h0 λe b=>Vx.1 b
  exact(c.late (s:=s) 32054400).flags
 ·intro x a;cases a
end
open Go.Proofs
def inG(s:Setup)(n:Int)(g:Seg):Bool:=decide (n - (s.unit+s.cap)<=g.from_) && decide (g.to_<=n+(s.unit+s.cap))
def qLb(s:Setup)(n:Int)(l:List Seg):List Seg:=l.filter λg=> !inG s n g
def qMb(q:Int->Bool)(l:List Flg):List Flg:=l.filter λf=> !q f.id
def InO(s:Setup)(p:Ev->Prop)(n:Int)(t:TellS):Prop:=∀f os,t.open_=some (f,os)->p f/\n - s.cap<=f.at_/\f.at_<=n
structure Nr (s:Setup) (p:Ev->Prop) (n:Int) (q:Int->Bool) (a b:TellS):Prop where
 seg:qLb s n a.segs=qLb s n b.segs
 flg:qMb q a.flags=qMb q b.flags
 opn:a.open_=b.open_∨(InO s p n a/\InO s p n b)
section
variable {s:Setup} {p:Ev->Prop} {n:Int} {q:Int->Bool} {a b t:TellS}
end
def ZC(s t:Spn):Spn:=⟨max s.from_ t.from_,min s.to_ t.to_⟩
def Za(a b:List Spn):List Spn:=a.flatMap λs=>b.map (ZC s)
def VF(a b:List Spn):List Spn:=qw (Za (qw a) (qw b))
theorem wea(a b:List Spn)(s:Spn):Za (a++[s]) b=Za a b++b.map (ZC s):=by simp[Za]
theorem qOa(a b:List Spn):(Za a b).length=a.length*b.length:=by
 induction a with
 | nil=>simp[Za]
 | cons s a c=>simp only[Za,List.flatMap_cons,ze,zb,List.length_cons,Nat.succ_mul] at *; omega
theorem Z2a{a b:List Spn}{t:Int}:Cov (Za a b) t↔Cov a t/\Cov b t:=by
 unfold Cov Za
 constructor
 ·rintro ⟨s,c,g,f⟩
  obtain⟨x,d,c⟩:=List.mem_flatMap.1 c
  obtain⟨y,e,rfl⟩:=zw.1 c
  simp only[ZC] at g f
  exact⟨⟨x,d,by omega,by omega⟩,y,e,by omega,by omega⟩
 ·rintro ⟨⟨x,d,g,f⟩,y,e,i,h⟩
  exact⟨ZC x y,List.mem_flatMap.2 ⟨x,d,zw.2 ⟨y,e,rfl⟩⟩,by simp only[ZC];omega,by simp only[ZC];omega⟩
theorem KT{a b:List Spn}{t:Int}:Cov (VF a b) t↔(0<=t/\t<32054400)/\Cov a t/\Cov b t:=by
 unfold VF
 rw[vq,Z2a,vq,vq]
 constructor
 ·rintro ⟨d,c,⟨_,_,e⟩,_,_,f⟩;exact⟨⟨d,c⟩,e,f⟩
 ·rintro ⟨⟨d,c⟩,e,f⟩;exact⟨d,c,⟨d,c,e⟩,d,c,f⟩
theorem JH:∀(c:Spn) (r:List Spn) (s:Spn),s∈vc c r->s.from_=c.from_∨∃x∈r,s.from_=x.from_
 | c,[],s,h=>by
   rw[vc,zN] at h
   subst h;exact .inl rfl
 | c,x::r,s,h=>by
   rw[vc] at h
   split at h
   ·rcases JH _ r s h with h|⟨y,a,h⟩
    ·exact .inl h
    ·exact .inr ⟨y,.tail _ a,h⟩
   ·rcases zE.1 h with rfl|h
    ·exact .inl rfl
    ·rcases JH x r s h with h|⟨y,a,h⟩
     ·exact .inr ⟨x,.head _,h⟩
     ·exact .inr ⟨y,.tail _ a,h⟩
theorem X4{l:List Spn}{s:Spn}(h:s∈qw l):∃x∈xf l,s.from_=x.from_:=by
 unfold qw at h
 have a:∀x∈KO (xf l),x∈xf l:=λx b=>(wx _).mem_iff.1 b
 cases d:KO (xf l) with
 | nil=>rw[d] at h;cases h
 | cons c r=>
   rw[d] at h a
   rcases JH c r s h with h|⟨x,b,h⟩
   ·exact⟨c,a c (.head _),h⟩
   ·exact⟨x,a x (.tail _ b),h⟩
theorem Xi:∀ {a b:List Int},a.Nodup->(∀x∈a,x∈b)->a.length<=b.length
 | [],_,_,_=>by simp
 | x::a,b,c,d=>by
   rw[List.nodup_cons] at c
   have f:=d x (.head _)
   have:=Xi (a:=a) (b:=b.erase x) c.2 λy g=>(List.mem_erase_of_ne (λe=>c.1 (by rw[<-e];exact g))).2 (d y (.tail _ g))
   rw[List.length_erase_of_mem f] at this
   have:0<b.length:=List.length_pos_of_mem f
   rw[List.length_cons];omega
theorem PlainS.froms{l:List Spn}(h:PlainS l):(l.map (·.from_)).Nodup:=by
 induction l with
 | nil=>simp
 | cons s l a=>
   rw[List.map_cons,List.nodup_cons]
   refine⟨λb=>?_,a h.tail⟩
   obtain⟨x,c,e⟩:=zw.1 b
   have f:=(qg.1 h.gap).1 x c
   have d:=h.pos s (.head _)
   omega
theorem YV(a b:List Spn):(VF a b).length<=(qw a).length+(qw b).length:=by
 have k:=(vN (Za (qw a) (qw b))).froms
 have d:((VF a b).map (·.from_)).length<=((qw a).map (·.from_)++(qw b).map (·.from_)).length:=by
  refine Xi k λx j=>?_
  obtain⟨s,d,rfl⟩:=zw.1 j
  obtain⟨y,h,e⟩:=X4 d
  unfold xf at h
  obtain⟨z,c,rfl⟩:=zw.1 (qq.1 h).1
  obtain⟨p,g,c⟩:=List.mem_flatMap.1 c
  obtain⟨q,f,rfl⟩:=zw.1 c
  have m:=(vk p g).1
  have l:=(vk q f).1
  rw[zJ]
  rw[e]
  simp only[kx,ZC]
  by_cases i:p.from_<=q.from_
  ·exact .inr (zw.2 ⟨q,f,by omega⟩)
  ·exact .inl (zw.2 ⟨p,g,by omega⟩)
 simpa using d
def ji:Int->List Spn->List Spn
 | k,[]=>if k<32054400 then [⟨k,32054400⟩] else []
 | k,s::r=>(if s.from_>k then [⟨k,s.from_⟩] else [])++ji s.to_ r
def jz(a b:List Spn):List Spn:=VF a (ji 0 (qw b))
theorem YW:∀ {l:List Spn} {k t:Int},PlainS l->(∀s∈l,k<=s.from_)->(∀s∈l,s.to_<=32054400)->(Cov (ji k l) t↔(k<=t/\t<32054400)/\¬ Cov l t)
 | [],k,t,_,_,_=>by
   unfold ji
   split
   ·simp[Cov]
   ·simp[Cov];omega
 | s::r,k,t,b,i,e=>by
   have m:=i s (.head _)
   have j:=b.pos s (.head _)
   have n:=e s (.head _)
   have g:=YW (l:=r) (k:=s.to_) (t:=t) b.tail (λx d=>by have:=(qg.1 b.gap).1 x d;omega) (λx d=>e x (.tail _ d))
   have c:Cov r t->s.to_<t:=b.above
   rw[ji,Vea,g,jN]
   split
   ·simp only[Cov,zN,exists_eq_left]
    constructor
    ·rintro (h|⟨h,a⟩)
     ·refine⟨by omega,?_⟩
      rintro (q|q)
      ·omega
      ·have:=c q;omega
     ·exact⟨by omega,λq=>by rcases q with q|q;omega;exact a q⟩
    ·rintro ⟨h,a⟩
     by_cases o:t<s.from_
     ·exact .inl (by omega)
     ·refine .inr ⟨⟨?_,h.2⟩,λq=>a (.inr q)⟩
      apply Classical.byContradiction
      intro f
      exact a (.inl (by omega))
   ·simp only[Cov,List.not_mem_nil,false_and,exists_false,false_or]
    constructor
    ·rintro ⟨h,a⟩
     exact⟨by omega,λq=>by rcases q with q|q;omega;exact a q⟩
    ·rintro ⟨h,a⟩
     refine⟨⟨?_,h.2⟩,λq=>a (.inr q)⟩
     apply Classical.byContradiction
     intro f
     exact a (.inl (by omega))
theorem X5:∀(l:List Spn) (k:Int),(ji k l).length<=l.length+1
 | [],k=>by unfold ji;split<;>simp
 | s::r,k=>by
   have:=X5 r s.to_
   rw[ji,ze,List.length_cons]
   split<;>simp<;>omega
theorem X6{a b:List Spn}{t:Int}:Cov (jz a b) t↔(0<=t/\t<32054400)/\Cov a t/\¬ Cov b t:=by
 unfold jz
 rw[KT,YW (vN b) (λs f=>(vk s f).1) (λs f=>(vk s f).2.2),vq]
 constructor
 ·rintro ⟨c,e,_,d⟩;exact⟨c,e,λq=>d ⟨c.1,c.2,q⟩⟩
 ·rintro ⟨c,e,d⟩;exact⟨c,e,c,λq=>d q.2.2⟩
theorem xm(a b:List Spn):(jz a b).length<=(qw a).length+(qw b).length+1:=by
 have e:=YV a (ji 0 (qw b))
 have d:=qh (ji 0 (qw b))
 have c:=X5 (qw b) 0
 unfold jz
 omega
def QR(s:Spn)(n:Int):Spn:=⟨s.from_,min s.to_ (s.from_+min n 32054400)⟩
def QS:List Spn->Int->List Spn
 | [],_=>[]
 | s::r,n=>if n<=0 then [] else QR s n::QS r (n - ((QR s n).to_ - s.from_))
theorem xK:∀(l:List Spn) (n:Int),(QS l n).length<=l.length
 | [],_=>zn _
 | s::r,n=>by
   rw[QS]
   split
   ·simp
   ·have:=xK r (n - ((QR s n).to_ - s.from_))
    simp only[List.length_cons];omega
def qJ(l:List Spn)(n:Int):List Spn:=QS (qw l) n
def X7(l:List Spn)(n:Int):List Spn:=if n<=0 then [] else jz l (qJ l (jK (qw l) - min n 32054400))
end Go.Proofs.YtigdlmpjijhpaaaGreat.Ax
namespace Go.Proofs.YtigdlmpjijhpaaaGreat.Ax
open Go Go.RowKit
theorem wfa{o:Option Ob}{st:Nat}{rows:List (List AV)}(a:qFa o st=some rows):∃ty e,o=some (.row ty e rows st):=by
 unfold qFa at a
 split at a
 ·split at a
  ·rename_i b
   injection a with a
   subst b a
   exact⟨_,_,rfl⟩
  ·cases a
 ·cases a
def x8a:AV->Option Nat
 | .tl id _=>some id
 | .vw a _ _ _=>x8a a
 | _=>none
theorem yra{n:Nat}{L:List Ob}:∀(r:AV) {rows:List (List AV)},z6 (List.replicate n .gone++L) r=some rows->∀id,x8a r=some id->n<=id
 | .tl id st,rows,h,i,hi=>by
   injection hi with hi
   subst hi
   apply Classical.byContradiction
   intro c
   have:(List.replicate n Ob.gone++L)[id]? =some .gone:=by
    rw[zH (by rw[qZ];omega),List.getElem?_replicate,if_pos (by omega)]
   rw[qU,this] at h
   cases h
 | .vw a e i k,rows,h,id,hi=>by
   rw[kP] at h
   cases b:z6 (List.replicate n .gone++L) a with
   | none=>rw[b] at h;cases h
   | some ys=>exact yra a b id hi
 | .v _,_,_,_,hi | .sl _ _,_,_,_,hi | .em,_,_,_,hi | .ptr _ _,_,_,_,hi | .ep _ _ _ _,_,_,_,hi | .mp _,_,_,_,hi | .ag _,_,_,_,hi | .tup _,_,_,_,hi | .fn _ _ _,_,_,_,hi | .bad,_,_,_,hi=>by cases hi
section
variable {B:Nat} {w:World} {g:Gh} {h L:List Ob}
theorem JZa{b:Nat}(k:kept g h b):kept g (h++L) b:=by
 obtain⟨i,o,c,a⟩:=k
 exact⟨i,o,zf c,a⟩
theorem YX(M:HOk B w g (h++L)):∀(r:AV) {A:Addr} {n k:Nat} {rows:List (List AV)} {e:Nat},AR (ctx w g (h++L)) r (.slice (some A) n k)->z6 (h++L) r=some rows->eOf (h++L) r=some e->0<e->rows≠[]->(∀id,x8a r=some id->h.length<=id)->¬ kept g h A.block
 | .sl y xs,A,n,k,rows,e,l,b,f,h0,j,d=>by
   obtain⟨R,k',t,V,G⟩:=l
   injection t with t s H
   subst t
   injection b with b
   subst b
   injection f with f
   subst f
   cases xs with
   | nil=>exact absurd rfl j
   | cons x xs=>
     obtain⟨⟨hl,z⟩,_⟩:=G
     cases x with
     | nil=>simp at hl;omega
     | cons c x=>
       obtain⟨⟨N,u,E,X,_⟩,_⟩:=z
       injection E with E
       subst E
       intro U
       refine X.1 ?_
       have:(A.add (0*y)).block=A.block:=by unfold Addr.add;split<;>rfl
       rw[this]
       exact JZa U
 | .tl id st,A,n,k,rows,e,l,b,f,h0,j,d=>by
   rw[qU] at b
   obtain⟨ty,y,K⟩:=wfa b
   have z:=Jo l K
   rintro ⟨i,p,J,Y⟩
   have Q:=vH J
   have hid:=d id rfl
   refine M.apart i id p _ A.block (by omega) (zf J) K Y ?_
   show(g.cur id).ownBlock=_
   rw[<-z];rfl
 | .vw a y i m,A,n,k,rows,e,l,b,f,h0,j,d=>by
   obtain⟨A0,m0,cp,R,k',t,V,G,s,H,_⟩:=l
   rw[kP] at b
   rw[Z7] at f
   cases F:z6 (h++L) a with
   | none=>rw[F] at b;cases b
   | some ys=>
     rw[F] at b
     simp only[Option.bind_some] at b
     split at b
     ·rename_i D
      injection b with b
      cases o:eOf (h++L) a with
      | none=>rw[o] at f;cases f
      | some O=>
        have I:0<m:=by
         apply Classical.byContradiction
         intro I
         have:m=0:=by omega
         subst this
         rw[List.take_zero] at b
         exact j b.symm
        have C:ys≠[]:=by
         intro S
         subst S
         simp at D
         omega
        have P:O=y/\y=e:=by
         rw[o] at f
         simp only[Option.bind_some] at f
         split at f
         ·rename_i q;injection f with f;exact⟨q,f⟩
         ·cases f
        injection s with s h6 h7
        subst h6
        obtain⟨N,Z,W⟩:=H I
        subst Z
        have T:=YX M a t F o (by omega) C d
        rw[W] at s
        injection s with s
        have:A.block=N.block:=by rw[s];unfold Addr.add;split<;>rfl
        rw[this]
        exact T
     ·cases b
 | .v x,A,n,k,rows,e,l,b,f,h0,j,d=>by
   have l:Value.slice (some A) n k=x:=l
   subst l
   cases b
 | .em,_,_,_,_,_,_,b,_,_,j,_=>by injection b with b;exact absurd b.symm j
 | .ptr _ _,_,_,_,_,_,_,b,_,_,_,_ | .ep _ _ _ _,_,_,_,_,_,_,b,_,_,_,_ | .mp _,_,_,_,_,_,_,b,_,_,_,_ | .ag _,_,_,_,_,_,_,b,_,_,_,_ | .tup _,_,_,_,_,_,_,b,_,_,_,_ | .fn _ _ _,_,_,_,_,_,_,b,_,_,_,_ | .bad,_,_,_,_,_,_,b,_,_,_,_=>by cases b
theorem QT(H:HOk B w g (h++L)){r:AV}{u:Value}{rows:List (List AV)}{e:Nat}(F:0<e)(K:AR (ctx w g (h++L)) r u)(C:SlOf (h++L) r e rows)(d:∀id,x8a r=some id->h.length<=id)(N:qQ h.length rows=true):AR (ctx w g h) (.sl e rows) u:=by
 obtain⟨A,k,E,J,M,R⟩:=wu H r K C.rows
 by_cases q:rows=[]
 ·subst q
  exact⟨A,k,E,J,True.intro⟩
 have m:=C.ee q
 have s:=M e m
 refine⟨A,k,E,J,?_⟩
 have P:∃a0,A=some a0:=by
  cases rows with
  | nil=>exact absurd rfl q
  | cons x xs=>
    have b:=s.len x (by simp)
    cases x with
    | nil=>simp at b;omega
    | cons c x=>
      obtain⟨I,D,p,_⟩:=s.cell 0 0 (c::x) c rfl rfl
      exact⟨I,p⟩
 obtain⟨a0,rfl⟩:=P
 subst E
 have t:=YX H r K C.rows m F q d
 have f:=xD w g h L
 have cells:∀(i:Nat) (x:List AV),rows[i]? =some x->qz h.length x=true->∀(y:List AV) (k0:Nat),(∀j a,y[j]? =some a->x[k0+j]? =some a)->qz h.length y=true->ACells (ctx w g h) (some a0) (i*e+k0) y:=by
  intro i x o _ y
  induction y with
  | nil=>intro _ _ _;trivial
  | cons c y v=>
    intro k0 n b
    have b:c.lt h.length=true/\qz h.length y=true:=by simpa [qz] using b
    have G:=n 0 c rfl
    rw[Nat.add_zero] at G
    obtain⟨I,D,p,O,Q⟩:=s.cell i k0 x c o G
    injection p with p
    subst p
    refine⟨⟨a0,D,rfl,⟨?_,O⟩,AR.less f c D b.1 Q⟩,?_⟩
    ·have:(a0.add (i*e+k0)).block=a0.block:=by unfold Addr.add;split<;>rfl
     rw[this]
     exact t
    ·have:=v (k0+1) (λj a l=>by
      have:=n (j+1) a l
      rw[show k0+(j+1)=k0+1+j by omega] at this
      exact this) b.2
     rw[show i*e+k0+1=i*e+(k0+1) by omega]
     exact this
 have all:∀(ys:List (List AV)) (i:Nat),(∀j x,ys[j]? =some x->rows[i+j]? =some x)->qQ h.length ys=true->ARows (ctx w g h) (some a0) e i ys:=by
  intro ys
  induction ys with
  | nil=>intro _ _ _;trivial
  | cons x ys v=>
    intro i n b
    have b:qz h.length x=true/\qQ h.length ys=true:=by simpa [qQ] using b
    have o:=n 0 x rfl
    rw[Nat.add_zero] at o
    refine⟨⟨s.len x (qi o),?_⟩,v (i+1) (λj z l=>by
     have:=n (j+1) z l
     rw[show i+(j+1)=i+1+j by omega] at this
     exact this) b.2⟩
    have:=cells i x o b.1 x 0 (λj a l=>by rw[Nat.zero_add];exact l) b.1
    simpa using this
 exact all rows 0 (λj x l=>by rw[Nat.zero_add];exact l) N
end
theorem New.root{h L:List Ob}{e:Nat}{x:AV}{rows:List (List AV)}(k:New h e x rows L):∀id,x8a x=some id->h.length<=id:=
 yra (L:=L) x (k (List.replicate h.length .gone) (by simp)).rows
variable {P:Program} {f:FuncId} {ar:List AV} {h:List Ob}
theorem jT{e:Nat}{rows:List (List AV)}(o:0<e)(n:qQ h.length rows=true)(c:ACalls P f ar h λr h'=>∃L,h'=h++L/\NoRes L/\New h e r rows L):ACalls P f ar h λr h'=>r= .sl e rows/\h'=h:=by
 refine⟨c.1,⟨_,_,⟨rfl,rfl⟩,.refl⟩,λφ j B w g vs l hB b=>?_⟩
 refine(c.2.2 φ j B w g vs l hB b).mono λq w' ⟨v,r,h',g',p,⟨L,m,_,i⟩,_,d,k⟩=>?_
 subst m
 rw[jC j] at d k
 have a:(fill φ h).length=h.length:=q9
 refine⟨v,_,h,g',p,⟨rfl,rfl⟩,.refl,d.drop rfl (by have:=l.ids;exact this),?_⟩
 refine QT d.ok o k (i _ a) (λid hid=>by rw[a];exact i.root id hid) (by rw[a];exact n)
theorem x9a{e d:Nat}{rows b:List (List AV)}(q:0<e)(t:0<d)(u:qQ h.length rows=true)(k:qQ h.length b=true)(c:ACalls P f ar h λr h'=>∃L y z,h'=h++L/\NoRes L/\r= .tup [y,z]/\New h e y rows L/\New h d z b L):ACalls P f ar h λr h'=>r= .tup [.sl e rows,.sl d b]/\h'=h:=by
 refine⟨c.1,⟨_,_,⟨rfl,rfl⟩,.refl⟩,λφ o B w g vs n hB i=>?_⟩
 refine(c.2.2 φ o B w g vs n hB i).mono λG w' ⟨v,r,h',g',C,⟨L,y,z,D,_,p,n1,n2⟩,_,j,m⟩=>?_
 subst D p
 rw[jC o] at j m
 have a:(fill φ h).length=h.length:=q9
 obtain⟨us,rfl,x,H,F,a1,s,E,A,a2,l⟩:=m
 have l:E=[]:=l
 subst l A
 refine⟨_,_,h,g',C,⟨rfl,rfl⟩,.refl,j.drop rfl (by have:=n.ids;exact this),us,rfl,?_⟩
 rw[F]
 exact⟨x,_,rfl,QT j.ok q a1 (n1 _ a) (λid hid=>by rw[a];exact n1.root id hid) (by rw[a];exact u),s,_,rfl,QT j.ok t a2 (n2 _ a) (λid hid=>by rw[a];exact n2.root id hid) (by rw[a];exact k),rfl⟩
def WeakV(r a:AV):Prop:=∀(c:Ctx) (v:Value),AR c r v->AR c a v
theorem WeakV.refl(r:AV):WeakV r r:=λ_ _ h=>h
theorem WeakV.nil(e:Nat):WeakV (.v (.slice none 0 0)) (.sl e []):=λ_ v h=>by
 have h:v= .slice none 0 0:=h
 subst h
 exact⟨none,0,rfl,zn _,True.intro⟩
theorem WeakV.two{a f b d:AV}(i:WeakV a f)(g:WeakV b d):WeakV (.tup [a,b]) (.tup [f,d]):=λc v ⟨vs,e,x,r,l,a1,y,j,k,a2,h⟩=>⟨vs,e,x,r,l,i c x a1,y,j,k,g c y a2,h⟩
theorem yL{R i:AV->List Ob->Prop}(c:ACalls P f ar h R)(e:∀r h',R r h'->∃b,i b h'/\WeakV r b):ACalls P f ar h i:=by
 refine⟨c.1,?_,λφ n B w g vs t hB a=>?_⟩
 ·obtain⟨r,h',q,m⟩:=c.2.1
  obtain⟨b,d,_⟩:=e r h' q
  exact⟨b,h',d,m⟩
 ·refine(c.2.2 φ n B w g vs t hB a).mono λu w' ⟨v,r,h',g',o,k,j,p,s⟩=>?_
  obtain⟨b,d,l⟩:=e r h' k
  exact⟨v,b,h',g',o,d,j,p,l _ _ s⟩
theorem X8{e:Nat}{rows:List (List AV)}(c:ACalls P f ar h λr h'=>(r= .sl e rows∨r= .v (.slice none 0 0)/\rows=[])/\h'=h):ACalls P f ar h λr h'=>r= .sl e rows/\h'=h:=
 yL c λr h' ⟨q,a⟩=>by
  rcases q with rfl|⟨rfl,rfl⟩
  ·exact⟨_,⟨rfl,a⟩,.refl _⟩
  ·exact⟨_,⟨rfl,a⟩,.nil e⟩
theorem KU{rs:List ResultVar}{T:Env}{h0 h':List Ob}{ty e:Nat}{x:AV}{rows:List (List AV)}(a:Z5 P T h' rs=some x)(b:Pre h0 h')(c:OwnS h0 h' ty e x rows):xAa P rs h0 (λr h''=>∃L,h''=h0++L/\NoRes L/\New h0 e r rows L) .ret T h':=by
 obtain⟨L,rfl,d⟩:=b
 exact⟨x,a,.inl ⟨L,rfl,d,c.new (zn _)⟩⟩
end Go.Proofs.YtigdlmpjijhpaaaGreat.Ax
namespace Go.Proofs.YtigdlmpjijhpaaaGreat.Ax
open Go Go.Proofs
set_option maxRecDepth 100000
def spv(l:List Spn):AV:= .sl 2 (l.map qE)
theorem jW{h:List Ob}(l:List Spn):SlOf h (spv l) 2 (l.map qE):=⟨rfl,λ_=>rfl⟩
theorem J0a{h:List Ob}(l:List Spn):z6 h (spv l)=some (l.map qE):=rfl
theorem qNb{h:List Ob}(l:List Spn):eOf h (spv l)=some 2:=rfl
theorem Vha(l:List Spn):AV.one (spv l)=true:=rfl
theorem Z3a(l:List Spn):AV.cells (spv l)=some [spv l]:=rfl
theorem QU{n:Nat}:∀l:List Spn,qQ n (l.map qE)=true
 | []=>rfl
 | s::l=>by
   rw[List.map_cons,qQ,QU l];rfl
theorem JI{n:Nat}(l:List Spn):(spv l).lt n=true:=QU l
attribute [go_sem] J0a qNb Vha Z3a
theorem JL(h:List Ob)(x:AV)(l:List Spn)(a:SlOf h x 2 (l.map qE))(b:l.length<1099511627776):
  ACalls Tryz.prog 70 [x] h λr h'=>r=spv (qw l)/\h'=h:=jT (by decide) (QU _) (c65 h x l a b)
theorem QV{l:List Spn}{i:Nat}(h:i<l.length):(l.map qE)[i]? =some (qE l[i]):=by rw[zx,zi h];rfl
theorem J1a{h:List Ob}{i id ty d e st:Nat}{cs:List AV}{rows:List (List AV)}(c:h[i]? =some (.box ty cs))(b:h[id]? =some (.row d e rows st))(M:List Ob)(o:Ob):((h++M).set id o)[i]? =some (.box ty cs):=by
 have a:id≠i:=λq=>by rw[q,c] at b;cases b
 rw[zc a]
 exact zf c
theorem YHa(h:List Ob)(x y:AV)(a b:List Spn)(hx:SlOf h x 2 (a.map qE))(hy:SlOf h y 2 (b.map qE))(ha:a.length<1048576)(hb:b.length<1048576):
  ACalls Tryz.prog 192 [x,y] h λr h'=>r=spv (VF a b)/\h'=h:=by
 refine zj Tryz.f192 [.tmp 4] 42 rfl rfl rfl rfl rfl rfl (by decide) (⟨_,_,⟨rfl,rfl⟩,.refl⟩) λB=>?_
 simp only[go_sem]
 refine zg (JL _ x a hx (by omega)) ?_
 rintro _ I ⟨rfl,rfl⟩
 obtain⟨u,hu⟩:∃u,u=qw a:=⟨_,rfl⟩
 obtain⟨v,Y⟩:∃v,v=qw b:=⟨_,rfl⟩
 have κ:u.length<1048576:=by have:=qh a;rw[hu];omega
 have ο:v.length<1048576:=by have:=qh b;rw[Y];omega
 rw[<-hu]
 have hand:VF a b=qw (Za u v):=by rw[hu,Y];rfl
 rw[hand]
 simp only[go_sem,zb]
 refine zP (by decide) (λm T h'=>∃i:Nat,i<=u.length/\Pre I h'/\OwnS I h' 143 2 (T 5) ((Za (u.take i) v).map qE)/\T 1=y/\T 11=spv u/\T 12=i64 u.length/\T 13=i64 i/\m=u.length - i) u.length
  ⟨0,by omega,Pre.refl,.inl ⟨by simp only[go_sem],rfl⟩,by simp only[go_sem],by simp only[go_sem],by(simp only[go_sem]<;>rfl),by(simp only[go_sem]<;>rfl),rfl⟩ ?_
 rintro m T h' ⟨i,hi,n,p,t1,d,g,c,rfl⟩
 simp only[go_sem,g,c]
 refine ways (λe=>?_) (λe=>?_)
 ·have O:=dlt e
  have w:=QV O
  have V:(i:Int)<u.length:=by omega
  have s:=wea (u.take i) v u[i]
  rw[zI O] at s
  have t:(Za (u.take i) v).length<=1048576*1048576:=by
   rw[qOa,qa]
   exact Nat.mul_le_mul (by omega) (by omega)
  obtain⟨z,hz⟩:∃z,z=u[i]:=⟨_,rfl⟩
  rw[<-hz] at w s
  obtain⟨J,W⟩:∃J,J=Za (u.take i) v:=⟨_,rfl⟩
  rw[<-W] at p s t
  simp only[go_sem,t1,d,c,w,V,zb,Int.toNat_natCast,zh]
  refine zg (JL _ y b ((n.app (zG rfl)).sl hy) (by omega)) ?_
  rintro _ h6 ⟨rfl,rfl⟩
  rw[<-Y]
  simp only[go_sem,zb]
  obtain⟨H,o⟩:∃H,H=h'++[Ob.box 143 (qE z)]:=⟨_,rfl⟩
  rw[show h'++[Ob.box 143 [i64 z.from_,i64 z.to_]]=H from o.symm]
  have U:H[h'.length]? =some (.box 143 (qE z)):=by rw[o];exact zM rfl
  have γ:=n.len
  have R:Pre I H:=by rw[o];exact n.app (zG rfl)
  have K:OwnS I H 143 2 (T 5) (J.map qE):=by rw[o];exact p.app _
  refine zP (by decide) (λm l G=>∃j:Nat,j<=v.length/\Pre I G/\OwnS I G 143 2 (l 5) ((J++(v.take j).map (ZC z)).map qE)/\G[h'.length]? =some (.box 143 (qE z))/\l 1=y/\l 7= .ptr h'.length 0/\l 11=spv u/\l 12=i64 u.length/\l 13=i64 i/\l 18=spv v/\l 19=i64 v.length/\l 20=i64 j/\m=v.length - j) v.length
   ⟨0,by omega,R,by(simp only[go_sem];simpa using K),U,by simp only[go_sem,t1],by simp only[go_sem],by simp only[go_sem,d],by simp only[go_sem,g],by simp only[go_sem,c],by simp only[go_sem],by(simp only[go_sem]<;>rfl),by(simp only[go_sem]<;>rfl),rfl⟩ ?_
  clear n p R K t1 d g c U
  rintro m l G ⟨j,hj,n,p,N,t1,t7,d,g,c,Q,D,F,rfl⟩
  simp only[go_sem,D,F]
  refine ways (λe=>?_) (λe=>?_)
  ·have C:=dlt e
   have f:=QV C
   have A:(j:Int)<v.length:=by omega
   have k:(v.take (j+1)).map (ZC z)=(v.take j).map (ZC z)++[ZC z v[j]]:=by rw[<-zI C,zy];rfl
   obtain⟨q,hq⟩:∃q,q=v[j]:=⟨_,rfl⟩
   rw[<-hq] at f k
   have hA:List.length (qE (ZC z q))=2:=rfl
   have P:∀M,(G++M)[h'.length]? =some (.box 143 (qE z)):=λM=>zf N
   have E:(J.length+min j v.length+1)*17<=140737488355328:=by omega
   rcases p with⟨t5,S⟩|⟨id,st,u1,t5,u3⟩
   ·simp only[go_sem,t5,t7,Q,F,P,f,A,zb,Int.toNat_natCast,zh,QM,QL]
    refine⟨v.length - (j+1),by omega,j+1,by omega,n.app (zr rfl (zr rfl (zG rfl))),.inr ⟨_,_,by have:=n.len;omega,rfl,?_⟩,t1,d,g,c,D,qm (by omega) rfl,rfl⟩
    rw[k, <-zp,zy,S,zK rfl]
    rfl
   ·have hg:∀M,(G++M)[id]? =some (.row 143 2 ((J++(v.take j).map (ZC z)).map qE) st):=λM=>zf u3
    simp only[go_sem,t5,t7,Q,F,P,hg,E,f,A,zb,qa,Int.toNat_natCast,zh,QM,QL]
    refine⟨v.length - (j+1),by omega,j+1,by omega,(n.app (zr rfl (zG rfl))).set u1 rfl,.inr ⟨id,st+1,u1,rfl,?_⟩,J1a N u3 _ _,t1,d,g,c,D,qm (by omega) rfl,rfl⟩
    rw[k, <-zp,zy (l₂:=[ZC z q])]
    exact zq (hg _)
  ·have α:=xb e
   have Z:j=v.length:=by omega
   subst Z
   rw[zZ, <-s] at p
   simp only[go_sem,c]
   exact⟨u.length - (i+1),by omega,i+1,by omega,n,p,t1,d,g,qm (by omega) rfl,rfl⟩
 ·have α:=xb e
  have X:i=u.length:=by omega
  subst X
  rw[zZ] at p
  have t:(Za u v).length<=1048575*1048575:=by
   rw[qOa]
   exact Nat.mul_le_mul (by omega) (by omega)
  simp only[go_sem]
  refine zg (JL _ _ (Za u v) p.rows (by omega)) ?_
  rintro _ h6 ⟨rfl,rfl⟩
  simp only[go_sem]
  obtain⟨L,rfl,_⟩:=n
  exact qva (by simp only[go_sem]) (JI _)
theorem ysa(h:List Ob)(x:AV)(l:List Spn)(a:SlOf h x 2 (l.map qE))(b:l.length<1048576):
  ACalls Tryz.prog 22 [x] h λr h'=>r=i64 (jK (qw l))/\h'=h:=c30 h x l a b
def vO(l:List Spn)(n size:Int):List Spn:=if n<0∨n>32054400 / size then [] else VF l [⟨n*size,(n+1)*size⟩]
theorem YIa(h:List Ob)(x:AV)(l:List Spn)(n size:Int)(m:SlOf h x 2 (l.map qE))(p:l.length<1048576)(g:size=86400∨size=604800):
  ACalls Tryz.prog 189 [x,i64 n,i64 size] h λr h'=>(r=spv (vO l n size)∨r= .v (.slice none 0 0)/\vO l n size=[])/\h'=h:=by
 have d:IntKind.wrap .i64 (Int.tdiv 32054400 size)=32054400 / size:=by rcases g with rfl|rfl<;>rfl
 have h0:¬ size=0:=by omega
 have k:32054400 / size<=371:=by rcases g with rfl|rfl<;>decide
 have hex:∃r h',((r=spv (vO l n size)∨r=AV.v (.slice none 0 0)/\vO l n size=[])/\h'=h)/\ResK h h':=⟨_,_,⟨.inl rfl,rfl⟩,.refl⟩
 refine zj Tryz.f189 [.tmp 6] 26 rfl rfl rfl rfl rfl rfl (by decide) (hex) λB=>?_
 simp only[go_sem]
 cases b:decide (n<0)
 ·have f:¬ n<0:=of_decide_eq_false b
  cases c:decide (n>32054400 / size)
  ·have e:¬ n>32054400 / size:=of_decide_eq_false c
   have a:vO l n size=VF l [⟨n*size,(n+1)*size⟩]:=by unfold vO;rw[if_neg (by omega)]
   have s:n*size<=371*604800/\0<=n*size/\(n+1)*size<=372*604800/\0<=(n+1)*size:=by
    rcases g with rfl|rfl<;>omega
   have o:IntKind.wrap .i64 (n*size)=n*size:=qp (n:=n*size) (by unfold Fit;omega)
   have j:IntKind.wrap .i64 (n+1)=n+1:=qp (n:=n+1) (by unfold Fit;omega)
   have i:IntKind.wrap .i64 ((n+1)*size)=(n+1)*size:=qp (n:=(n+1)*size) (by unfold Fit;omega)
   simp only[go_sem,b,c,d,h0,qD,o,j,i]
   refine zg (YHa _ x _ l [⟨n*size,(n+1)*size⟩] (m.app _) (OwnS.rows (h0:=h) (ty:=143) (.inr ⟨_,_,zn _,rfl,by rw[zM rfl];rfl⟩)) p (by simp)) ?_
   rintro _ q ⟨rfl,rfl⟩
   simp only[go_sem]
   exact⟨spv (vO l n size),by(simp only[go_sem];rw[a]),.inr ⟨h,_,rfl,rfl,JI _,.refl,.inl rfl,rfl⟩⟩
  ·have e:=of_decide_eq_true c
   have a:vO l n size=[]:=by unfold vO;rw[if_pos (by omega)]
   simp only[go_sem,b,c,d,h0,qD]
   exact⟨_,by simp only[go_sem],.inl ⟨.inr ⟨rfl,a⟩,rfl⟩⟩
 ·have f:=of_decide_eq_true b
  have a:vO l n size=[]:=by unfold vO;rw[if_pos (by omega)]
  simp only[go_sem,b,d,h0,qD]
  exact⟨_,by simp only[go_sem],.inl ⟨.inr ⟨rfl,a⟩,rfl⟩⟩
theorem W1a(h:List Ob)(x:AV)(l:List Spn)(n size:Int)(b:SlOf h x 2 (l.map qE))(c:l.length<1048576)(a:size=86400∨size=604800):
  ACalls Tryz.prog 189 [x,i64 n,i64 size] h λr h'=>r=spv (vO l n size)/\h'=h:=
 X8 ((YIa h x l n size b c a).mono λr h' ⟨q,e⟩=>⟨q.imp_right λq=>⟨q.1,by rw[q.2];rfl⟩,e⟩)
def xz(l:List Spn)(d:Int):List Spn:=vO l d 86400
def js(l:List Spn)(k:Int):List Spn:=vO l k 604800
theorem wga(h:List Ob)(x:AV)(l:List Spn)(d:Int)(a:SlOf h x 2 (l.map qE))(b:l.length<1048576):
  ACalls Tryz.prog 241 [x,i64 d] h λr h'=>r=spv (xz l d)/\h'=h:=by
 refine zj Tryz.f241 [.tmp 4] 8 rfl rfl rfl rfl rfl rfl (by decide) (⟨_,_,⟨rfl,rfl⟩,.refl⟩) λB=>?_
 simp only[go_sem]
 refine zg (W1a h x l d 86400 a b (.inl rfl)) ?_
 rintro _ c ⟨rfl,rfl⟩
 simp only[go_sem]
 exact XU (by simp only[go_sem];rfl)
theorem yta(h:List Ob)(x:AV)(l:List Spn)(k:Int)(a:SlOf h x 2 (l.map qE))(b:l.length<1048576):
  ACalls Tryz.prog 117 [x,i64 k] h λr h'=>r=spv (js l k)/\h'=h:=by
 refine zj Tryz.f117 [.tmp 4] 8 rfl rfl rfl rfl rfl rfl (by decide) (⟨_,_,⟨rfl,rfl⟩,.refl⟩) λB=>?_
 simp only[go_sem]
 refine zg (W1a h x l k 604800 a b (.inr rfl)) ?_
 rintro _ c ⟨rfl,rfl⟩
 simp only[go_sem]
 exact XU (by simp only[go_sem];rfl)
theorem Qm(l:List Spn)(n size:Int):(vO l n size).length<=(qw l).length+1:=by
 unfold vO
 split
 ·simp
 ·have b:=YV l [⟨n*size,(n+1)*size⟩]
  have a:=qh [(⟨n*size,(n+1)*size⟩:Spn)]
  simp at a
  omega
def wy(n:Int):Int:=ofI n 86400
theorem qOb(n:Int):xw Tryz.prog 240 [i64 n] (i64 (wy n)):=λh=>by
 refine zj Tryz.f240 [.tmp 2] 5 rfl rfl rfl rfl rfl rfl (by decide) (⟨_,_,⟨rfl,rfl⟩,.refl⟩) λB=>?_
 simp only[go_sem]
 refine zg (c51 n 86400 (by decide) _) ?_
 rintro _ a ⟨rfl,rfl⟩
 simp only[go_sem]
 refine zm ?_<;>(simp only[go_sem,wy]<;>try rfl)
def ZD:List Spn->List Spn->Int->List Spn
 | o,[],_=>o
 | o,s::r,n=>if n<=0 then o else ZD (o++[QR s n]) r (n - ((QR s n).to_ - s.from_))
theorem kaa:∀(l o:List Spn) (n:Int),ZD o l n=o++QS l n
 | [],o,n=>by simp[ZD,QS]
 | s::r,o,n=>by
   rw[ZD,QS]
   split
   ·simp
   ·rw[kaa r];simp
theorem kba{v o:List Spn}{i:Nat}{n:Int}(hi:i<v.length):ZD o (v.drop i) n=if n<=0 then o else ZD (o++[QR v[i] n]) (v.drop (i+1)) (n - ((QR v[i] n).to_ - (v[i]).from_)):=by
 rw[qI hi,ZD]
theorem Via(h:List Ob)(x:AV)(l:List Spn)(n:Int)(V:SlOf h x 2 (l.map qE))(hl:l.length<1048576)(R:Fit n):
  ACalls Tryz.prog 187 [x,i64 n] h λr h'=>∃L,h'=h++L/\NoRes L/\New h 2 r ((qJ l n).map qE) L:=by
 have hex:∃r h',(∃L,h'=h++L/\NoRes L/\New h 2 r ((qJ l n).map qE) L)/\ResK h h':=
  ⟨.sl 2 _,_,⟨[],rfl,jf,λ_ _=>⟨rfl,λ_=>rfl⟩⟩,qS⟩
 refine zj Tryz.f187 [.tmp 4] 38 rfl rfl rfl rfl rfl rfl (by decide) (hex) λB=>?_
 simp only[go_sem]
 refine zg (JL _ x l V (by omega)) ?_
 rintro _ K ⟨rfl,rfl⟩
 have f:qJ l n=ZD [] ((qw l).drop 0) n:=by rw[kaa];rfl
 have q:= @vk l
 rw[f]
 obtain⟨v,H⟩:∃v,v=qw l:=⟨_,rfl⟩
 have X:v.length<1048576:=by have:=qh l;rw[H];omega
 rw[<-H] at q⊢
 obtain⟨W,J⟩:∃W,W=ZD [] (v.drop 0) n:=⟨_,rfl⟩
 rw[<-J]
 simp only[go_sem,zb]
 refine zP (by decide) (λm T h'=>∃(i:Nat) (o:List Spn) (k:Int),i<=v.length/\o.length<=i/\Fit k/\ZD o (v.drop i) k=W/\Pre K h'/\OwnS K h' 143 2 (T 4) (o.map qE)/\T 1=i64 k/\T 8=spv v/\T 9=i64 v.length/\T 10=i64 i/\m=v.length - i) v.length
  ⟨0,[],n,by omega,by simp,R,J.symm,Pre.refl,.inl ⟨by simp only[go_sem],rfl⟩,by simp only[go_sem],by simp only[go_sem],by(simp only[go_sem]<;>rfl),by(simp only[go_sem]<;>rfl),rfl⟩ ?_
 rintro m T h' ⟨i,o,k,hi,Q,w,a,s,E,t1,t8,t9,t10,rfl⟩
 simp only[go_sem,t9,t10]
 refine ways (λe=>?_) (λe=>?_)
 ·have c:=dlt e
  have b:=QV c
  have A:(i:Int)<v.length:=by omega
  have Y:=q _ (zD c)
  rw[kba c] at a
  obtain⟨z,P⟩:∃z,z=v[i]:=⟨_,rfl⟩
  rw[<-P] at b a Y
  simp only[go_sem,t1,t8,t10,b,A,zb,Int.toNat_natCast,zh]
  refine ways (λd=>?_) (λd=>?_)
  ·have d:k<=0:=of_decide_eq_true d
   rw[if_pos d] at a
   simp only[go_sem]
   subst a
   exact KU (by simp only[go_sem]) (s.app (zG rfl)) (E.app _)
  ·have d:¬ k<=0:=of_decide_eq_false d
   rw[if_neg d] at a
   obtain⟨y,D⟩:∃y,y=QR z k:=⟨_,rfl⟩
   have j:y.from_=z.from_:=by rw[D];rfl
   have p:y.to_=min z.to_ (z.from_+min k 32054400):=by rw[D];rfl
   have O:IntKind.wrap .i64 (z.from_+min k 32054400)=z.from_+min k 32054400:=qp (n:=z.from_+min k 32054400) (by unfold Fit at w ⊢;omega)
   have F:IntKind.wrap .i64 (y.to_ - z.from_)=y.to_ - z.from_:=qp (n:=y.to_ - z.from_) (by unfold Fit at w ⊢;omega)
   have G:IntKind.wrap .i64 (k - (y.to_ - z.from_))=k - (y.to_ - z.from_):=qp (n:=k - (y.to_ - z.from_)) (by unfold Fit at w ⊢;omega)
   have t:Fit (k - (y.to_ - z.from_)):=by unfold Fit at w ⊢;omega
   rw[<-D] at a
   have Z:List.length (qE y)=2:=rfl
   have g:(o.length+1)*17<=140737488355328:=by omega
   rcases E with⟨t4,u⟩|⟨id,st,I,t4,S⟩
   ·simp only[go_sem,t1,t4,t8,t10,zb,QL,O, <-p,F,G]
    refine⟨v.length - (i+1),by omega,i+1,o++[y],_,by omega,by simp;omega,t,a,s.app (zr rfl (zr rfl (zG rfl))),.inr ⟨_,_,by have:=s.len;omega,rfl,?_⟩,rfl,t9,qm (by omega) rfl,rfl⟩
    rw[zy,u,zK rfl, <-j]
    rfl
   ·have N:∀M,(h'++M)[id]? =some (.row 143 2 (o.map qE) st):=λM=>zf S
    simp only[go_sem,t1,t4,t8,t10,N,g,zb,QL,O, <-p,F,G]
    refine⟨v.length - (i+1),by omega,i+1,o++[y],_,by omega,by simp;omega,t,a,(s.app (zr rfl (zG rfl))).set I rfl,.inr ⟨id,st+1,I,rfl,?_⟩,rfl,t9,qm (by omega) rfl,rfl⟩
    rw[zy, <-j]
    exact zq (N _)
 ·have U:=xb e
  have C:i=v.length:=by omega
  subst C
  rw[List.drop_length,ZD] at a
  subst a
  simp only[go_sem]
  exact KU (by simp only[go_sem]) s E
theorem jOa(h:List Ob)(x:AV)(l:List Spn)(n:Int)(a:SlOf h x 2 (l.map qE))(c:l.length<1048576)(b:Fit n):
  ACalls Tryz.prog 187 [x,i64 n] h λr h'=>r=spv (qJ l n)/\h'=h:=jT (by decide) (QU _) (Via h x l n a c b)
end Go.Proofs.YtigdlmpjijhpaaaGreat.Ax
namespace Go.Proofs.YtigdlmpjijhpaaaGreat.Ax
open Go Go.RowKit
structure LIn (F:List (Nat × Ob)) (h0 h:List Ob) (i bty ty e:Nat) (rows:List (List AV)):Prop where
 pre:Pre h0 h
 le:h0.length<=i
 kept:∀z∈F,z.1≠i/\(∃t cs,z.2= .box t cs)/\h[z.1]? =some z.2
 at_:∃x,h[i]? =some (.box bty [x])/\OwnS h0 h ty e x rows
variable {F:List (Nat × Ob)} {h0 h:List Ob} {i bty ty e:Nat} {rows rows':List (List AV)}
theorem LIn.app(k:LIn F h0 h i bty ty e rows){M:List Ob}(b:NoRes M):LIn F h0 (h++M) i bty ty e rows:=by
 obtain⟨k1,k2,k3,x,k4,k5⟩:=k
 exact⟨k1.app b,k2,λz a=>⟨(k3 z a).1,(k3 z a).2.1,zf (k3 z a).2.2⟩,x,zf k4,k5.app M⟩
theorem LIn.lt(k:LIn F h0 h i bty ty e rows):i<h.length:=by
 obtain⟨x,k4,_⟩:=k.at_
 exact(zd.1 k4).1
theorem LIn.push_nil(k:LIn F h0 h i bty ty e rows){M:List Ob}(c:NoRes M){id:Nat}(hid:h.length<=id)(b:(h++M)[id]? =some (.row ty e rows' 0)):LIn F h0 ((h++M).set i (.box bty [.tl id 0])) i bty ty e rows':=by
 have hi:=k.lt
 have d:=k.pre.len
 have k':=k.app c
 refine⟨k'.pre.set k.le rfl,k.le,λz a=>⟨(k.kept z a).1,(k.kept z a).2.1,?_⟩,.tl id 0,?_,.inr ⟨id,0,by omega,rfl,?_⟩⟩
 ·rw[zc (Ne.symm (k.kept z a).1)];exact(k'.kept z a).2.2
 ·rw[zo (by rw[ze];omega)]
 ·rw[zc (by omega)];exact b
theorem LIn.push_own(k:LIn F h0 h i bty ty e rows){M:List Ob}(j:NoRes M){id st:Nat}(hid:h0.length<=id)(a:h[id]? =some (.row ty e rows st)):LIn F h0 (((h++M).set id (.row ty e rows' (st+1))).set i (.box bty [.tl id (st+1)])) i bty ty e rows':=by
 have hi:=k.lt
 have o:=k.pre.len
 have k':=k.app j
 obtain⟨x,n,_⟩:=k.at_
 have c:id≠i:=λq=>by rw[q,n] at a;cases a
 have g:=(zd.1 a).1
 refine⟨(k'.pre.set hid rfl).set k.le rfl,k.le,λz b=>⟨(k.kept z b).1,(k.kept z b).2.1,?_⟩,.tl id (st+1),?_,.inr ⟨id,st+1,hid,rfl,?_⟩⟩
 ·obtain⟨m,⟨t,cs,f⟩,l⟩:=k.kept z b
  have d:id≠z.1:=λq=>by rw[q,l,f] at a;cases a
  rw[zc (Ne.symm m),zc d]
  exact(k'.kept z b).2.2
 ·rw[zo (by rw[zz,ze];omega)]
 ·rw[zc (Ne.symm c),zo (by rw[ze];omega)]
theorem LIn.any(k:LIn F h0 h i bty ty e rows)(rows':List (List AV)):∃h',LIn F h0 h' i bty ty e rows'/\ResK h h':=by
 have q:=k.push_nil (M:=[.row ty e rows' 0]) (zG rfl) (id:=h.length) (zn _) (by rw[zM rfl];rfl)
 exact⟨_,q,k.pre.resK q.pre⟩
theorem LIn.keep(k:LIn F h0 h i bty ty e rows){z:Nat × Ob}(a:z∈F):h[z.1]? =some z.2:=(k.kept z a).2.2
end Go.Proofs.YtigdlmpjijhpaaaGreat.Ax
namespace Go.Proofs.YtigdlmpjijhpaaaGreat.Ax
open Go Go.Proofs
set_option maxRecDepth 100000
def X9(o:List Int)(d:Int):List Int:=match o.getLast? with
 | none=>[d]
 | some x=>if x<d then o++[d] else o
theorem J2a(o:List Int)(d:Int):(X9 o d).length<=o.length+1:=by
 unfold X9
 split
 ·simp
 ·split<;>simp
def z9a(o:List Int)(a:Int):Nat->List Int
 | 0=>o
 | k+1=>X9 (z9a o a k) (a+k)
theorem YY(o:List Int)(a:Int):∀k,(z9a o a k).length<=o.length+k
 | 0=>zn _
 | k+1=>by
   have c:=YY o a k
   have b:=J2a (z9a o a k) (a+k)
   rw[z9a];omega
def vV(o:List Int)(s:Spn):List Int:=z9a o (wy s.from_) (wy (s.to_ - 1) - wy s.from_+1).toNat
def qR(l:List Spn):List Int:=(qw l).foldl vV []
theorem yk(n:Int):0<=wy n/\wy n<371:=by
 unfold wy ofI jl
 have h0:0<=min (max n 0) 32054399/\min (max n 0) 32054399<=32054399:=by omega
 rw[Int.tdiv_eq_ediv_of_nonneg h0.1,qp (by unfold Fit;omega)]
 omega
theorem kca(o:List Int)(s:Spn):(vV o s).length<=o.length+372:=by
 have c:=YY o (wy s.from_) (wy (s.to_ - 1) - wy s.from_+1).toNat
 have b:=yk s.from_
 have a:=yk (s.to_ - 1)
 unfold vV
 omega
theorem YJa(F:List (Nat × Ob))(h0 h:List Ob)(i:Nat)(o:List Int)(d:Int)(k:LIn F h0 h i 27 3 1 (o.map qB))(K:o.length<1099511627776):
  ACalls Tryz.prog 239 [i64 d,.ptr i 0] h λr h'=>r= .tup []/\LIn F h0 h' i 27 3 1 ((X9 o d).map qB):=by
 have hex:∃r h',(r=AV.tup []/\LIn F h0 h' i 27 3 1 ((X9 o d).map qB))/\ResK h h':=by
  obtain⟨h',I,E⟩:=k.any ((X9 o d).map qB)
  exact⟨_,h',⟨rfl,I⟩,E⟩
 obtain⟨x,e,m⟩:=k.at_
 have g:z6 h x=some (o.map qB):=m.rows.rows
 have J:List.length (qB d)=1:=rfl
 have c:(o.length+1)*9<=140737488355328:=by omega
 refine zj Tryz.f239 [] 21 rfl rfl rfl rfl rfl rfl (by decide) (hex) λB=>?_
 simp only[go_sem,e,g,zb]
 rcases m with⟨rfl,p⟩|⟨id,st,G,rfl,j⟩
 ·have t:o=[]:=by simpa using p
  subst t
  have b:∀M,(h++M)[i]? =some (.box 27 [.v (.slice none 0 0)]):=λM=>zf e
  simp only[go_sem,e,b]
  exact⟨_,rfl,.inl ⟨rfl,k.push_nil (zr rfl (zG rfl)) (by omega) (by rw[zK (k:=1) rfl];rfl)⟩⟩
 ·have A:∀M,(h++M)[id]? =some (.row 3 1 (o.map qB) st):=λM=>zf j
  have b:∀M,(h++M)[i]? =some (.box 27 [.tl id st]):=λM=>zf e
  have u:id≠i:=λq=>by rw[q,e] at j;cases j
  have f:∀M o',((h++M).set id o')[i]? =some (.box 27 [.tl id st]):=λM o'=>by
   rw[zc u];exact b M
  have app:∀M,NoRes M->X9 o d=o++[d]->LIn F h0 (((h++M).set id (.row 3 1 (o.map qB++[[i64 d]]) (st+1))).set i (.box 27 [.tl id (st+1)])) i 27 3 1 ((X9 o d).map qB):=λM H q=>by
   rw[q,zy]
   exact k.push_own H G j
  cases a:o.getLast? with
  | none=>
    have t:o=[]:=by simpa using a
    subst t
    simp only[go_sem,e]
    simp only[go_sem,b,A,c,f]
    exact⟨_,rfl,.inl ⟨rfl,app _ (zG rfl) rfl⟩⟩
  | some z=>
    have C:0<o.length:=by cases o with|nil=>cases a|cons _ _=>simp
    have w:(o.map qB)[o.length - 1]? =some [i64 z]:=by
     rw[zx]
     rw[List.getLast?_eq_getElem?] at a
     rw[a];rfl
    have l:((o.length:Int)==0)=false:=by rw[beq_eq_false_iff_ne];omega
    have y:IntKind.wrap .i64 ((o.length:Int) - 1)=((o.length - 1:Nat):Int):=KH (by omega) (by omega)
    have n:((o.length - 1:Nat):Int)<o.length:=by omega
    have g:z6 h (.tl id st)=some (o.map qB):=g
    have D:eOf h (.tl id st)=some 1:=by rw[jI,j,vT]
    cases q:decide (z<d)
    ·have s:X9 o d=o:=by unfold X9;rw[a];simp only;rw[if_neg (of_decide_eq_false q)]
     simp only[go_sem,l,e,j,y,w,n,qD,q,zb,Int.toNat_natCast,zh]
     exact⟨_,rfl,.inl ⟨rfl,by rw[s];exact k⟩⟩
    ·have s:X9 o d=o++[d]:=by unfold X9;rw[a];simp only;rw[if_pos (of_decide_eq_true q)]
     simp only[go_sem,l,e,j,y,w,n,qD,q,zb,Int.toNat_natCast,zh]
     simp only[go_sem,b,A,c,f,zb]
     exact⟨_,rfl,.inl ⟨rfl,app _ (zG rfl) s⟩⟩
theorem YKa(h:List Ob)(x:AV)(l:List Spn)(hx:SlOf h x 2 (l.map qE))(hl:l.length<1048576):
  ACalls Tryz.prog 182 [x] h λr h'=>∃L,h'=h++L/\NoRes L/\New h 1 r ((qR l).map qB) L:=by
 have hex:∃r h',(∃L,h'=h++L/\NoRes L/\New h 1 r ((qR l).map qB) L)/\ResK h h':=
  ⟨.sl 1 _,_,⟨[],rfl,jf,λ_ _=>⟨rfl,λ_=>rfl⟩⟩,qS⟩
 refine zj Tryz.f182 [.cell 2 27] 37 rfl rfl rfl rfl rfl rfl (by decide) (hex) λB=>?_
 simp only[go_sem]
 refine zg (JL _ x l (hx.app _) (by omega)) ?_
 rintro _ h4 ⟨rfl,rfl⟩
 have t:qR l=((qw l).take (qw l).length).foldl vV []:=by rw[zZ];rfl
 have y:= @vk l
 rw[t]
 obtain⟨v,P⟩:∃v,v=qw l:=⟨_,rfl⟩
 have γ:v.length<1048576:=by have:=qh l;rw[P];omega
 rw[<-P] at y⊢
 obtain⟨W,Q⟩:∃W,W=(v.take v.length).foldl vV []:=⟨_,rfl⟩
 rw[<-Q]
 simp only[go_sem,zb]
 refine zP (by decide) (λm T h'=>∃(i:Nat) (o:List Int),i<=v.length/\o=(v.take i).foldl vV []/\o.length<=372*i/\LIn [] h h' h.length 27 3 1 (o.map qB)/\T 2= .ptr h.length 0/\T 3= .fn (.func 239) [] [.ptr h.length 0]/\T 10=spv v/\T 11=i64 v.length/\T 12=i64 i/\m=v.length - i) v.length
  ⟨0,[],by omega,rfl,by simp,⟨⟨_,rfl,zG rfl⟩,zn _,(λz F=>by cases F),_,by rw[zM rfl];rfl,.inl ⟨rfl,rfl⟩⟩,by simp only[go_sem],by simp only[go_sem],by simp only[go_sem],by(simp only[go_sem]<;>rfl),by(simp only[go_sem]<;>rfl),rfl⟩ ?_
 rintro m T h' ⟨i,o,hi,J,V,k,t2,t3,t10,d,b,rfl⟩
 simp only[go_sem,d,b]
 refine ways (λe=>?_) (λe=>?_)
 ·have q:=dlt e
  have g:=QV q
  have E:(i:Int)<v.length:=by omega
  have hb:=y _ (zD q)
  have C:(v.take (i+1)).foldl vV []=vV o v[i]:=by rw[<-zI q,qY, <-J];rfl
  obtain⟨z,F⟩:∃z,z=v[i]:=⟨_,rfl⟩
  rw[<-F] at g C hb
  simp only[go_sem,t10,b,g,E,zb,Int.toNat_natCast,zh]
  refine zg (qOb z.from_ _) ?_
  rintro _ N ⟨rfl,rfl⟩
  have w1:IntKind.wrap .i64 (z.to_ - 1)=z.to_ - 1:=qp (n:=z.to_ - 1) (by unfold Fit;omega)
  simp only[go_sem,w1]
  refine zg (qOb (z.to_ - 1) _) ?_
  rintro _ N ⟨rfl,rfl⟩
  have r1:=yk z.from_
  have r2:=yk (z.to_ - 1)
  have U:IntKind.wrap .i64 (wy (z.to_ - 1) - wy z.from_)=wy (z.to_ - 1) - wy z.from_:=qp (n:=wy (z.to_ - 1) - wy z.from_) (by unfold Fit;omega)
  have Y:IntKind.wrap .i64 (wy (z.to_ - 1) - wy z.from_+1)=wy (z.to_ - 1) - wy z.from_+1:=qp (n:=wy (z.to_ - 1) - wy z.from_+1) (by unfold Fit;omega)
  simp only[go_sem,U,Y]
  obtain⟨a,M⟩:∃a,a=wy z.from_:=⟨_,rfl⟩
  obtain⟨c,O⟩:∃c,c=wy (z.to_ - 1) - wy z.from_+1:=⟨_,rfl⟩
  have w:vV o z=z9a o a c.toNat:=by unfold vV;rw[M,O]
  rw[show wy (z.to_ - 1) - wy z.from_+1=c from O.symm,show wy z.from_=a from M.symm]
  rw[<-M] at r1
  have ζ:c<=371:=by omega
  refine zP (by decide) (λm f G=>∃j:Nat,j<=c.toNat/\LIn [] h G h.length 27 3 1 ((z9a o a j).map qB)/\f 2= .ptr h.length 0/\f 3= .fn (.func 239) [] [.ptr h.length 0]/\f 6=i64 a/\f 10=spv v/\f 11=i64 v.length/\f 12=i64 i/\f 25=i64 c/\f 26=i64 j/\m=c.toNat - j) c.toNat
   ⟨0,by omega,k.app (zG rfl),by simp only[go_sem,t2],by simp only[go_sem,t3],by simp only[go_sem],by simp only[go_sem,t10],by simp only[go_sem,d],by simp only[go_sem,b],by simp only[go_sem],by(simp only[go_sem]<;>rfl),rfl⟩ ?_
  clear k t2 t3 t10 d b
  rintro m f G ⟨j,hj,k,t2,t3,t6,t10,d,b,t25,s,rfl⟩
  simp only[go_sem,t25,s]
  refine ways (λe=>?_) (λe=>?_)
  ·have R:(j:Int)<c:=of_decide_eq_true e
   have w4:IntKind.wrap .i64 (a+j)=a+j:=qp (n:=a+j) (by unfold Fit;omega)
   have X:=YY o a j
   simp only[go_sem,t3,t6,s,w4]
   refine zg (YJa [] h G h.length (z9a o a j) (a+j) k (by omega)) ?_
   rintro _ N ⟨rfl,k6⟩
   simp only[go_sem,s]
   exact⟨c.toNat - (j+1),by omega,j+1,by omega,k6,t2,t3,t6,t10,d,b,t25,qm (by omega) rfl,rfl⟩
  ·have K:¬ (j:Int)<c:=of_decide_eq_false e
   have I:j=c.toNat:=by omega
   subst I
   simp only[go_sem,b]
   have Z:=kca o z
   exact⟨v.length - (i+1),by omega,i+1,vV o z,by omega,C.symm,by omega,by rw[w];exact k,t2,t3,t10,d,qm (by omega) rfl,rfl⟩
 ·have K:=xb e
  have H:i=v.length:=by omega
  subst H
  rw[<-Q] at J
  subst J
  obtain⟨S,p,A⟩:=k.at_
  have D:=k.pre
  have u:AV.cells S=some [S]:=A.rows.cells
  simp only[go_sem,t2,p,u]
  rw[qM p]
  exact KU (by simp only[go_sem,t2,p]) D A
theorem ZE{n:Nat}:∀l:List Int,qQ n (l.map qB)=true
 | []=>rfl
 | s::l=>by
   rw[List.map_cons,qQ,ZE l];rfl
theorem J3a(h:List Ob)(x:AV)(l:List Spn)(a:SlOf h x 2 (l.map qE))(b:l.length<1048576):
  ACalls Tryz.prog 182 [x] h λr h'=>r= .sl 1 ((qR l).map qB)/\h'=h:=jT (by decide) (ZE _) (YKa h x l a b)
end Go.Proofs.YtigdlmpjijhpaaaGreat.Ax
namespace Go.Proofs.YtigdlmpjijhpaaaGreat.Ax
open Go Go.RowKit
section
variable {P:Program} {ops:Array Oper} {Q:Exit->Act->World->Prop}
theorem XE(l n:Nat){o:Oper}{a:Act}{w:World}{K K':Act->World->Prop}(s:∀c,o.op≠ .defer c)(d:∀a w,K a w->K' a w)(h:o.wpIn Fence.wide n P a w K Q):o.wpIn (Fence.wide.inRound l) n P a w K' Q:=by
 unfold Oper.wpIn at h⊢
 refine⟨λ_ _=>trivial,?_⟩
 have h:=h.2
 rw[Oper.semAt_eq _ _ _ s] at h⊢
 generalize (execOp a.eval o).run P w=r at h⊢
 have b:∀row args w' (R m:Value->World->Prop),(∀v w,R v w->m v w)->RowsIn Fence.wide (n - 1) P row args w' R->RowsIn (Fence.wide.inRound l) (n - 1) P row args w' m:=λrow args w' R m p h c cs k=>by
  obtain⟨v,i,j,y⟩:=h c cs (room_wide _)
  exact⟨v,i,p _ _ j,y⟩
 cases r with
 | ok x w'=>
   cases x with
   | value v=>exact d _ _ h
   | skip=>exact d _ _ h
   | enter f ar=>exact⟨λg=>(by cases g),CallsIn.inRound l (h.2.mono λe i q=>by cases e<;>first|exact d _ _ q|exact q)⟩
   | row r ar=>exact⟨λg=>(by cases g),b _ _ _ _ _ (λ_ _=>d _ _) h.2⟩
   | round l' f t aZ u=>exact⟨λg=>(by cases g),(show RoundIn Fence.wide _ P l' f t aZ u _ _ from h.2.mono λe i q=>by cases e<;>first|exact d _ _ q|exact q)⟩
   | _=>first|exact h|exact h.elim|exact d _ _ h
 | halt x w'=>
   cases x<;>first|exact h|exact h.elim
def Xj(ops:Array Oper):Bool:=ops.toList.all λo=>match o.op with | .defer _=>false|_=>true
theorem Y0(h:Xj ops=true){i:Nat}{o:Oper}(a:ops[i]? =some o):∀c,o.op≠ .defer c:=by
 intro c b
 unfold Xj at h
 rw[zR] at h
 have:=h o (by rw[<-qr] at a;exact qi a)
 rw[b] at this
 cases this
theorem wha(l n:Nat)(d:¬ LetsOut Q)(e:Xj ops=true){i:Nat}{a:Act}{w:World}{K:Act->World->Prop}(h:wpOp P ops Q i K a w):wpOpIn (Fence.wide.inRound l) n P ops Q i K a w:=by
 unfold wpOp at h
 unfold wpOpIn
 cases c:ops[i]? with
 | none=>rw[c] at h;exact h
 | some o=>
   rw[c] at h
   simp only at h⊢
   split
   ·rename_i b
    rw[if_pos b] at h
    rcases h with h|⟨_,h⟩
    ·exact XE l n (Y0 e c) (λ_ _ q=>q) (xQ n h)
    ·exact absurd h d
   ·rename_i b
    rw[if_neg b] at h
    exact⟨λ_ _=>trivial,h⟩
theorem Wj(l n:Nat)(c:¬ LetsOut Q)(d:Xj ops=true):∀(b:Nat) (listed:Array Bool) (a:Act) (w:World),wpAny P .any ops Q b listed a w->wpAnyIn (Fence.wide.inRound l) n P .any ops Q b listed a w
 | 0,_,_,_,h=>h
 | b+1,_,_,_,h=>⟨h.1,λi hi=>wha l n c d (wpOp_mono (λe w' h'=>Wj l n c d b _ e w' h') (h.2 i hi))⟩
theorem Y4(b n:Nat):∀(l:List Oper) {a:Act} {w:World},(∀o∈l,∀c,o.op≠ .defer c)->wpListIn Fence.wide n P ops Q l a w->wpListIn (Fence.wide.inRound b) n P ops Q l a w
 | [],_,_,_,h=>h
 | o::l,a,w,f,h=>by
   have e:∀a w,wpListIn Fence.wide n P ops Q l a w->wpListIn (Fence.wide.inRound b) n P ops Q l a w:=λa w=>Y4 b n l λx g=>f x (.tail _ g)
   unfold wpListIn at h⊢
   split
   ·rename_i d
    rw[if_pos d] at h
    exact XE b n (f o (.head _)) e h
   ·rename_i d
    rw[if_neg d] at h
    exact⟨λ_ _=>trivial,e _ _ h.2⟩
end
section
variable {P:Program} {N b:Nat} {T:Env} {h:List Ob} {c c':Code} {ops:Array Oper} {Q Q':jF}
def RWp(P:Program)(N b l:Nat)(c:Code)(Q:jF)(T:Env)(h:List Ob):Prop:=
 ∀(φ:Nat->Ob),Upto φ h.length->∀(w:World) (g:Gh) (a:Act),Rel N ⟨b,[]⟩ w g (fill φ h) a T->c.wpIn (Fence.wide.inRound l) 0 P (λe f w'=>∃d h',Q e d h'/\Aft N ⟨b,[]⟩ φ w g h d h' f w') a w
theorem Vka{l:Nat}(k:RWp P N b l c (yC (RWp P N b l c' Q) Q) T h):RWp P N b l (.seq c c') Q T h:=λφ f w g a r=>by
 refine wpIn_seq (Code.wpIn_mono (λe o w' ⟨p,h',i,d⟩=>?_) (k φ f w g a r))
 have v:=d.len
 cases e<;>first
  | (obtain⟨g',u,n,t⟩:=d;exact Code.wpIn_mono (λ_ _ _ ⟨m,j,s,q⟩=>⟨m,j,s,q.trans u t⟩) (i φ (f.mono v) w' g' o n))
  | exact⟨p,h',i,d⟩
theorem qPa{l id:Nat}(k:RWp P N b l c (QC id Q) T h):RWp P N b l (.block id c) Q T h:=λφ m w g a r=>by
 refine wpIn_block (Code.wpIn_mono (λe n w' ⟨j,h',d,f⟩=>?_) (k φ m w g a r))
 cases e with
 | exit i=>
   simp only[QC] at d
   simp only[Exit.inBlock]
   split
   ·rename_i hi;rw[if_pos hi] at d;exact⟨j,h',d,f⟩
   ·rename_i hi;rw[if_neg hi] at d;exact⟨j,h',d,f⟩
 | _=>exact⟨j,h',d,f⟩
theorem QW{l id:Nat}(c:ops.toList.all (xc N)=true)(j:Xj ops=true)(k:wpR P ops (Q .normal) ops.toList T h):RWp P N b l (.region id ops false) Q T h:=λφ e w g a r=>by
 refine wpIn_region ?_
 rw[List.range_eq_range', <-qH,wpOpsIn_eq_wpListIn ops.toList 0 (by simp)]
 refine Y4 l 0 ops.toList (λo f=>?_) (yc ops.toList c e (Wf _ k) r λd h' w' m k' q=>⟨d,h',k',q⟩)
 obtain⟨i,hi⟩:=List.mem_iff_getElem?.1 f
 exact Y0 j (i:=i) (by rw[<-qr];exact hi)
theorem J4a{l id:Nat}(H:P.follows .mixedOrders=true)(L:List Ob)(k:Nat)(c:List Ent)(J:L=List.replicate k .res)(X:ops.toList.all (xc N)=true)(f:Jy ops k c=true)(I:Xj ops=true)(s:∀T h,¬ Q .outgrown T h)(B:wpQ P ops h.length (Q .normal) c T (h++L)):RWp P N b l (.region id ops true) Q T h:=λφ A w g a r=>by
 have kk:=yka _ (J▸B)
 simp only[Jy,zl,zR,decide_eq_true_eq,List.contains_eq_mem,qT] at f
 obtain⟨⟨⟨⟨⟨D,M⟩,z⟩,G⟩,W⟩,m⟩:=f
 have j:=Good.drew (g:=g) r.ok r.hB
 have y:=J9 j.size k j.ok
 have u:=j.trans y
 have x:fill φ (h++List.replicate k .res)=fill φ h++List.replicate k .res:=jC A
 rw[<-x] at u
 have S:Rel N ⟨b,[]⟩ w.drew g (fill φ (h++List.replicate k .res)) a T:=⟨u.ok,u.size,λi=>AR.le u.le _ _ (r.t i),r.d,r.n⟩
 refine wpIn_region_any H (Wj l 0 ?_ I _ _ _ _ ?_)
 ·rintro ⟨a1,w1,T1,Z,V,_⟩
  exact s _ _ V
 have R:Rest ops (Array.replicate ops.size false) c:=by
  refine⟨by simp,W,λi hi=>?_,yx c D,λq s=>⟨k,z q s⟩,λi o v Y=>?_⟩
  ·simp[zt,hi]
   have:=G i hi
   simpa using this
  ·have hi:i<ops.size:=by
    rcases Nat.lt_or_ge i ops.size with h|h
    ·exact h
    ·rw[Array.getElem?_eq_none h] at v;cases v
   simp[zt,hi] at Y
 refine Vs (K:=Q .normal) A M X ops.size _ c m R (by simp) (λq s o v F=>?_) kk S λC h' w' g' a' k' U O q=>⟨C,h',k',g',λi hi=>?_,O,u.trans q⟩
 ·obtain⟨o',e,_,_,E,_⟩:=yF (z q s)
  rw[v] at e
  injection e with e
  subst e
  have:=E F
  rw[zQ (by omega),Nat.add_sub_cancel_left,List.getElem?_replicate,if_pos this]
 ·have p:=(zd.1 hi).1
  exact U i p (by rw[zH p];exact hi)
abbrev Qn:=Exit->List Deferred->Env->List Ob->Prop
def Xw(P:Program)(N b:Nat)(ds:List Deferred)(c:Code)(Q:Qn)(T:Env)(h:List Ob):Prop:=
 ∀ (φ:Nat->Ob),Upto φ h.length->∀(w:World) (g:Gh) (a:Act),Rel N ⟨b,ds⟩ w g (fill φ h) a T->
   c.wp P (λe i w'=>∃d f h',Q e d f h'/\∃g',ResK h h'/\Rel N ⟨b,d⟩ w' g' (fill φ h') i f/\Good b w g (fill φ h) w' g' (fill φ h')) a w
variable {ds:List Deferred} {X X':Qn}
theorem yua(k:AWp P N ⟨b,ds⟩ c Q T h)(d:∀e T h,Q e T h->X e ds T h):Xw P N b ds c X T h:=λφ m w g a r=>
 wp_mono (k φ m w g a r) λe o w' ⟨l,h',n,g',j,f,i⟩=>⟨ds,l,h',d _ _ _ n,g',j,f,i⟩
def qPb(K:List Deferred->Env->List Ob->Prop)(X:Qn):Qn
 | .normal,ds,T,h=>K ds T h
 | e,ds,T,h=>X e ds T h
theorem Y5(k:Xw P N b ds c (qPb (λd T h=>Xw P N b d c' X T h) X) T h):Xw P N b ds (.seq c c') X T h:=λφ l w g a r=>by
 refine wp_seq (wp_mono (k φ l w g a r) λe q w' ⟨d,s,h',n,g',m,j,f⟩=>?_)
 have x:h.length<=h'.length:=yB f
 cases e<;>first
  | exact wp_mono (n φ (l.mono x) w' g' q j) λ_ _ _ ⟨i,p,o,v,u,t,z3,z4⟩=>⟨i,p,o,v,u,m.trans t,z3,f.trans z4⟩
  | exact⟨d,s,h',n,g',m,j,f⟩
theorem Wk{id:Nat}(k:Xw P N b ds c (λe d T h=>e= .normal/\X .normal d T h) T h):Xw P N b ds (.block id c) X T h:=λφ j w g a r=>by
 refine wp_block (wp_mono (k φ j w g a r) λe n w' ⟨d,i,h',⟨m,l⟩,f⟩=>?_)
 subst m
 exact⟨d,i,h',l,f⟩
end
