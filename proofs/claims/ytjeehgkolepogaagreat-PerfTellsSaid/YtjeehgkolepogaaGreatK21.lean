import Derived.Test.YtjeehgkolepogaaGreatK20
set_option linter.all false
namespace Go.Proofs.YtjeehgkolepogaaGreat.Ax
section
variable{x:Spn}{l a b:List Spn}{t:Int}
def leS(a b:Spn):Prop:=a.from_<=b.from_
def xn(s:Spn):Spn:=⟨max s.from_ 0,min s.to_ 32054400⟩
def jX(l:List Spn):List Spn:=(l.map xn).filter λs=>decide (s.from_<s.to_)
def xF:Spn->List Spn->List Spn
 | c,[]=>[c]
 | c,s::r=>if s.from_<=c.to_ then xF ⟨c.from_,max c.to_ s.to_⟩ r else c::xF s r
def wu:List Spn->List Spn
 | []=>[]
 | s::r=>xF s r
def J0(l:List Spn):List Spn:=l.mergeSort λa b=>decide (a.from_<=b.from_)
def xo(l:List Spn):List Spn:=wu (J0 (jX l))
def Cov(l:List Spn)(t:Int):Prop:=∃s∈l,s.from_<=t/\t<s.to_
structure PlainS (l:List Spn):Prop where
 pos:∀s∈l,s.from_<s.to_
 gap:l.Pairwise λa b=>a.to_<b.from_
def jn:Cov (x::l) t↔(x.from_<=t/\t<x.to_)∨Cov l t:=by
 simp[Cov]
def Zi:¬ Cov [] t:=λ⟨_,h,_⟩=>by cases h
def KW:Cov (a++b) t↔Cov a t∨Cov b t:=by
 simp only[Cov,zV];constructor
 ·rintro ⟨s,h|h,k⟩
  ·exact .inl ⟨s,h,k⟩
  ·exact .inr ⟨s,h,k⟩
 ·rintro (⟨s,h,k⟩|⟨s,h,k⟩)
  ·exact⟨s,.inl h,k⟩
  ·exact⟨s,.inr h,k⟩
def PlainS.tail(h:PlainS (x::l)):PlainS l:=⟨λs k=>h.pos s (.tail _ k),(z6.1 h.gap).2⟩
def PlainS.above(h:PlainS (x::l))(k:Cov l t):x.to_<t:=by
 obtain⟨s,a,b,_⟩:=k;have:=(z6.1 h.gap).1 s a;omega
def PlainS.first(h:PlainS (x::l))(k:Cov (x::l) t):x.from_<=t:=by
 have a:=h.pos x (.head _);rcases jn.1 k with k|k
 ·exact k.1
 ·have:=h.above k;omega
def J1:∀ {a b:List Spn},PlainS a->PlainS b->(∀t,Cov a t↔Cov b t)->a=b
 | [],[],_,_,_=>rfl
 | [],y::b,_,c,h=>by
   have e:=c.pos y (.head _);exact absurd ((h y.from_).2 (jn.2 (.inl ⟨Int.le_refl _,e⟩))) Zi
 | x::a,[],d,_,h=>by
   have e:=d.pos x (.head _);exact absurd ((h x.from_).1 (jn.2 (.inl ⟨Int.le_refl _,e⟩))) Zi
 | x::a,y::b,d,c,h=>by
   have g:=d.pos x (.head _);have i:=c.pos y (.head _);have n:=c.first ((h x.from_).1 (jn.2 (.inl ⟨Int.le_refl _,g⟩)));have j:=d.first ((h y.from_).2 (jn.2 (.inl ⟨Int.le_refl _,i⟩)))
   have m:¬ x.to_<y.to_:=λk=>by
    have:=(h x.to_).2 (jn.2 (.inl ⟨zb,k⟩));rcases jn.1 this with q|q
    ·omega
    ·have:=d.above q;omega
   have l:¬ y.to_<x.to_:=λk=>by
    have:=(h y.to_).1 (jn.2 (.inl ⟨zb,k⟩));rcases jn.1 this with q|q
    ·omega
    ·have:=c.above q;omega
   have f:x=y:=by
    cases x;cases y;simp only[Spn.mk.injEq] at*
    omega
   subst f;refine congrArg _ (J1 d.tail c.tail λt=>⟨λk=>?_,λk=>?_⟩)
   ·rcases jn.1 ((h t).1 (jn.2 (.inr k))) with q|q
    ·have:=d.above k;omega
    ·exact q
   ·rcases jn.1 ((h t).2 (jn.2 (.inr k))) with q|q
    ·have:=c.above k;omega
    ·exact q
def merge1_plain:∀ {c:Spn} {r:List Spn},c.from_<c.to_->(∀s∈r,s.from_<s.to_)->r.Pairwise leS->(∀s∈r,c.from_<=s.from_)->
    PlainS (xF c r)/\(∀s∈xF c r,c.from_<=s.from_)/\∀t,Cov (xF c r) t↔Cov (c::r) t
 | c,[],g,_,_,_=>by
   have e:xF c []=[c]:=(by simp[xF]);rw[e];exact⟨⟨λs h=>by simp at h;subst h;exact g,zh⟩,λs h=>by simp at h;subst h;exact Int.le_refl _,λt=>Iff.rfl⟩
 | c,s::r,g,l,o,n=>by
   have j:=l s (.head _);have b:∀q∈r,q.from_<q.to_:=λq h=>l q (.tail _ h);obtain⟨d,f⟩:=z6.1 o;have m:=n s (.head _);unfold xF;split
   ·rename_i i;have a:=merge1_plain (c:=⟨c.from_,max c.to_ s.to_⟩) (r:=r) (by simp only;omega) b f (λq h=>by have:=d q h;simp only[leS] at this ⊢;omega);refine⟨a.1,a.2.1,λt=>(a.2.2 t).trans ?_⟩;rw[jn,jn,jn];simp only;constructor
    ·rintro (k|k)
     ·by_cases p:t<c.to_
      ·exact .inl ⟨k.1,p⟩
      ·exact .inr (.inl ⟨zb,zb⟩)
     ·exact .inr (.inr k)
    ·rintro (k|k|k)
     ·exact .inl ⟨k.1,zb⟩
     ·exact .inl ⟨zb,zb⟩
     ·exact .inr k
   ·rename_i i;have a:=merge1_plain (c:=s) (r:=r) j b f d;refine⟨⟨λq h=>?_,z6.2 ⟨λq h=>?_,a.1.gap⟩⟩,λq h=>?_,λt=>?_⟩
    ·rcases zK.1 h with rfl|h
     ·exact g
     ·exact a.1.pos q h
    ·have:=a.2.1 q h;omega
    ·rcases zK.1 h with rfl|h
     ·exact Int.le_refl _
     ·have:=a.2.1 q h;omega
    ·rw[jn,jn,a.2.2 t]
def vY(a:∀s∈l,s.from_<s.to_)(b:l.Pairwise leS):PlainS (wu l)/\∀t,Cov (wu l) t↔Cov l t:=by
 cases l with
 | nil=>exact⟨⟨λ_ h=>(by cases h),List.Pairwise.nil⟩,λ_=>Iff.rfl⟩
 | cons s r=>
   have:=merge1_plain (a s (.head _)) (λq h=>a q (.tail _ h)) (z6.1 b).2 (z6.1 b).1;exact⟨this.1,this.2.2⟩
def vo(l:List Spn):(J0 l).Perm l:=List.mergeSort_perm l _
def yu(l:List Spn):(J0 l).Pairwise leS:=by
 have:=List.pairwise_mergeSort (le:=λa b:Spn=>decide (a.from_<=b.from_)) (λa b c d e=>by simp at *; omega) (λa b=>zE) l;exact this.imp λh=>by simpa [leS] using h
def J2(h:a.Perm b)(t:Int):Cov a t↔Cov b t:=by
 simp only[Cov];exact⟨λ⟨s,k,r⟩=>⟨s,h.mem_iff.1 k,r⟩,λ⟨s,k,r⟩=>⟨s,h.mem_iff.2 k,r⟩⟩
def Zj:∀s∈jX l,s.from_<s.to_:=λs h=>by
 simp only[jX,qD,decide_eq_true_eq] at h;exact h.2
def Zk{l m:List Spn}(c:m.Perm (jX l))(d:m.Pairwise leS):wu m=xo l:=by
 have p1:∀s∈m,s.from_<s.to_:=λs h=>Zj s (c.mem_iff.1 h);have p2:∀s∈J0 (jX l),s.from_<s.to_:=λs h=>Zj s ((vo _).mem_iff.1 h);have a:=vY p1 d;have b:=vY p2 (yu (jX l));refine J1 a.1 b.1 λt=>?_;rw[a.2,show xo l=wu (J0 (jX l)) from rfl,b.2,J2 c,J2 (vo (jX l))]
def QV(l:List Spn):PlainS (xo l):=(vY (λs h=>Zj s ((vo _).mem_iff.1 h)) (yu (jX l))).1
def Qu(l:List Spn)(t:Int):Cov (xo l) t↔(0<=t/\t<32054400/\Cov l t):=by
 have d:=(vY (λs h=>Zj s ((vo _).mem_iff.1 h)) (yu (jX l))).2 t;rw[show xo l=wu (J0 (jX l)) from rfl,d,J2 (vo _)];simp only[Cov,jX,qD,zQ,decide_eq_true_eq];constructor
 ·rintro ⟨s,⟨⟨x,a,rfl⟩,f⟩,c,b⟩;simp only[xn] at c b;exact⟨zb,zb,x,a,zb,zb⟩
 ·rintro ⟨c,b,x,a,e,g⟩;exact⟨xn x,⟨⟨x,a,rfl⟩,by simp only[xn];omega⟩,by simp only[xn];omega,by simp only[xn];omega⟩
def vG(l:List Spn):Int:=(l.map λs=>s.to_ - s.from_).sum
def yW:∀ {c:Spn} {r:List Spn},(∀s∈r,s.from_<s.to_)->c.from_<c.to_->(c::r).Pairwise (λa b=>a.to_<=b.from_)->vG (xF c r)=vG (c::r)
 | c,[],_,_,_=>rfl
 | c,s::r,g,m,h=>by
   have f:=g s (.head _);have d:∀q∈r,q.from_<q.to_:=λq h=>g q (.tail _ h);obtain⟨k,e⟩:=z6.1 h;have i:=k s (.head _);unfold xF;split
   ·rename_i j
    rw[yW (c:=⟨c.from_,max c.to_ s.to_⟩) d (by simp only;omega) (by
     refine z6.2 ⟨λq l=>?_,(z6.1 e).2⟩;have:=(z6.1 e).1 q l;simp only;omega)]
    simp only[vG,List.map_cons,List.sum_cons];omega
   ·have:=yW (c:=s) d f e;simp only[vG,List.map_cons,List.sum_cons] at this⊢;rw[this]
def ZM{α:Type}{p:α->Bool}:∀ {l:List α},(∀x∈l,p x=true)->l.filter p=l
 | [],_=>rfl
 | x::l,h=>by rw[List.filter_cons,if_pos (h x (.head _)),ZM λy k=>h y (.tail _ k)]
def qba(c:∀s∈l,0<=s.from_/\s.from_<s.to_/\s.to_<=32054400)(h:l.Pairwise λa b=>a.to_<=b.from_):vG (xo l)=vG l:=by
 have e:jX l=l:=by
  have:l.map xn=l:=by
   rw[List.map_congr_left (g:=id)]
   ·simp
   ·intro s d;have:=c s d;cases s;simp only[xn,id,Spn.mk.injEq] at*
    omega
  rw[jX,this];exact ZM λs d=>by have:=c s d;simp;omega
 have d:l.Pairwise leS:=by
  clear e
  induction l with
  | nil=>exact .nil
  | cons x l n=>
    obtain⟨j,f⟩:=z6.1 h;refine z6.2 ⟨λy i=>?_,n (λs k=>c s (.tail _ k)) f⟩;have:=j y i;have:=c x (.head _);simp only[leS];omega
 rw[<-Zk (l:=l) (m:=l) (by rw[e]) d];cases l with
 | nil=>rfl
 | cons x l=>exact yW (λs k=>(c s (.tail _ k)).2.1) (c x (.head _)).2.1 h
def jPa:∀s∈xo l,0<=s.from_/\s.from_<s.to_/\s.to_<=32054400:=λs a=>by
 have b:=(QV l).pos s a;have c:=(Qu l s.from_).1 ⟨s,a,zb,b⟩;have d:=(Qu l (s.to_ - 1)).1 ⟨s,a,zb,zb⟩;omega
def ZN:∀(c:Spn) (r:List Spn),(xF c r).length<=r.length+1
 | _,[]=>by simp[xF]
 | c,s::r=>by
   unfold xF;split
   ·have:=ZN ⟨c.from_,max c.to_ s.to_⟩ r;simp;omega
   ·have:=ZN s r;simp;omega
def Ye:∀(l:List Spn),(wu l).length<=l.length
 | []=>by simp[wu]
 | s::r=>by simpa [wu] using ZN s r
def Zl(l:List Spn):(jX l).length<=l.length:=by
 have:=qj (λs:Spn=>decide (s.from_<s.to_)) (l.map xn);simpa [jX] using this
def qca(l:List Spn):(xo l).length<=l.length:=by
 have a:=Ye (J0 (jX l));have c:=(vo (jX l)).length_eq;have b:=Zl l;unfold xo;omega
end
open Go Go.Proofs
section
variable{s:Setup}{a b u w c first last:Int}{e:Ev}{l:List Seg}{t:TellS}{p:Ev->Prop}
def J8{lo hi x:Int}(h:kY lo hi [x]=true):lo<=x/\x<=hi:=by
 simp[kY,Qq] at h;omega
def vH(h:zX s=true):(1<=s.unit/\s.unit<=3600)/\(60<=s.cap/\s.cap<=57600):=by
 simp only[zX,xY,zi] at h;exact⟨J8 h.1.2.1.1.1.1.2,J8 h.1.2.1.1.1.2⟩
def rqP(t u:Int):Int:=if t % u≥u - t % u then t / u+1 else t / u
def Qd{t u:Int}(i:1<=u)(f:u<=3600):qi t u=min (rqP (je t 32054400) u*u) 32054400:=by
 have c0:0<=je t 32054400:=by unfold je;omega
 have c:je t 32054400<=32054400:=by unfold je;omega
 have j:=Int.emod_nonneg (je t 32054400) (show u≠0 by omega);have k:=Int.emod_lt_of_pos (je t 32054400) (show 0<u by omega);have l:0<=je t 32054400 / u:=Int.ediv_nonneg c0 zb;have m:je t 32054400 / u<=32054400:=Int.le_trans (Int.ediv_le_self _ c0) c
 have d:kC (je t 32054400) u=(je t 32054400 / u,je t 32054400 % u):=by
  unfold kC;rw[Int.tdiv_eq_ediv_of_nonneg c0,Int.tmod_eq_emod_of_nonneg c0,if_neg zb,qb qg]
 have e:QU (je t 32054400) u=(rqP (je t 32054400) u,0):=by
  unfold QU;rw[if_neg zb,d];simp only;rw[qb (n:=u - je t 32054400 % u) qg];unfold rqP;split
  ·rw[qb qg]
  ·rfl
 have b:0<=rqP (je t 32054400) u:=by unfold rqP;split<;>omega
 have a:rqP (je t 32054400) u<=32054401:=by unfold rqP;split<;>omega
 have h:rqP (je t 32054400) u*u<=32054401*3600:=Int.mul_le_mul a f zb zb;have g:0<=rqP (je t 32054400) u*u:=Int.mul_nonneg b zb;unfold qi;rw[if_neg zb,e];simp only;rw[show min u 64108801=u by omega,qb qg]
def kna(i:1<=u)(h:a<=b):rqP a u<=rqP b u:=by
 have e:a / u<=b / u:=Int.ediv_le_ediv zb h;have c:=Int.emod_add_mul_ediv a u;have f:=Int.emod_add_mul_ediv b u;have:=Int.emod_nonneg b (show u≠0 by omega);have:=Int.emod_lt_of_pos a (show 0<u by omega);unfold rqP;by_cases d:a / u=b / u
 ·rw[d] at c⊢;have g:a % u<=b % u:=zb;split<;>split<;>omega
 ·split<;>split<;>omega
def ZO(c:1<=u)(d:u<=3600)(h:a<=b):qi a u<=qi b u:=by
 rw[Qd c d,Qd c d];have e:je a 32054400<=je b 32054400:=by unfold je;omega
 have:=Int.mul_le_mul_of_nonneg_right (kna c e) (show 0<=u by omega);omega
def KZ(b:1<=u)(d:u<=3600):0<=qi a u:=by
 rw[Qd b d];have c0:0<=je a 32054400:=by unfold je;omega
 have e:0<=je a 32054400 / u:=Int.ediv_nonneg c0 zb;have c:0<=rqP (je a 32054400) u:=by unfold rqP;split<;>omega
 have:=Int.mul_nonneg c (show 0<=u by omega);omega
def jSa(b:1<=u)(c:u<=3600):qi a u<=32054400:=by
 rw[Qd b c];omega
def J9{k:Int}(h:ZL k=true):1<=k/\k<=7:=by
 simp[ZL] at h;omega
def Qx(h:km s e=true):qV e=true:=by
 unfold km at h;cases a:qV e
 ·rw[a] at h;simp at h
 ·rfl
def yX(h:qV e=true):(1<=e.kind/\e.kind<=7)/\(0<=e.id/\e.id<=100000)/\0<=e.worker/\(0<=e.at_/\e.at_<=31449599)/\(e.kind≠4->e.code=0):=by
 simp only[qV,zi,Bool.not_not] at h;obtain⟨f,c,a,d,b⟩:=h;refine⟨J9 f,?_,?_,?_,λg=>?_⟩
 ·simp[vW] at c;exact c
 ·simp at a;exact a
 ·simp[vW] at d;exact d
 ·unfold jW at b;by_cases a:e.kind=3
  ·simp[a] at b;omega
  ·simp[a,g] at b;omega
def V0:jU s w e=true↔e.worker=w/\e.kind≠7/\km s e=true:=by
 simp[jU,and_assoc]
def vIa{l:List Ev}(h:Srt l):l.Pairwise λa b=>a.at_<=b.at_:=by
 induction l with
 | nil=>exact .nil
 | cons x l d=>
   have h':Srt ([x]++l):=h;obtain⟨_,c,e⟩:=jN.1 h';refine z6.2 ⟨λy f=>?_,d c⟩;have:=e x (.head _) y f;have:=(xh y x).1 this;omega
structure RiseTo (l:List Seg) (hi:Int):Prop where
 each:∀g∈l,0<=g.from_/\g.from_<g.to_/\g.to_<=hi
 gap:l.Pairwise λa b=>a.to_<=b.from_
def RiseTo.mono(h:RiseTo l a)(k:a<=b):RiseTo l b:=⟨λg c=>by have:=h.each g c;omega,h.gap⟩
def RiseTo.snoc{g:Seg}(h:RiseTo l b)(h0:0<=b)(d:g.from_=b)(e:g.from_<g.to_):RiseTo (l++[g]) g.to_:=by
 refine⟨λx a=>?_,qo.2 ⟨h.gap,zh,λx a y c=>?_⟩⟩
 ·rcases zV.1 a with a|a
  ·have:=h.each x a;omega
  ·simp at a;subst a;omega
 ·simp at c;subst c;have:=h.each x a;omega
def Qe(e:Ev)(g:Seg):Prop:=g.id=e.id/\g.kind=wt e.kind/\g.code=e.code
def Xa:(kg t b c e).segs=if b<c then t.segs++[⟨b,c,wt e.kind,e.id,e.code⟩] else t.segs:=by
 unfold kg;split<;>rfl
def Xb(h:RiseTo t.segs b)(h0:0<=b)(a:b<=c):RiseTo (kg t b c e).segs c:=by
 rw[Xa];split
 ·exact h.snoc (g:=⟨b,c,wt e.kind,e.id,e.code⟩) h0 rfl (by simp only;omega)
 ·exact h.mono a
def V1(h:∀g∈t.segs,∃e,p e/\Qe e g)(d:p e):∀g∈(kg t b c e).segs,∃e,p e/\Qe e g:=λg a=>by
 rw[Xa] at a;split at a
 ·rcases zV.1 a with a|a
  ·exact h g a
  ·simp at a;subst a;exact⟨e,d,rfl,rfl,rfl⟩
 ·exact h g a
def parts_rise(m:0<=first):∀(os:List Ev) (z:Int × Ev × TellS),first<=z.1->z.1<=max first last->RiseTo z.2.2.segs z.1->(∀g∈z.2.2.segs,∃e,p e/\Qe e g)->p z.2.1->
    os.Pairwise (λa b=>a.at_<=b.at_)->(∀x∈os,p x/\z.1<=toP first last x.at_)->
    first<=(os.foldl (kH first last) z).1/\(os.foldl (kH first last) z).1<=max first last/\RiseTo (os.foldl (kH first last) z).2.2.segs (os.foldl (kH first last) z).1/\(∀g∈(os.foldl (kH first last) z).2.2.segs,∃e,p e/\Qe e g)/\p (os.foldl (kH first last) z).2.1
 | [],z,i,l,c,d,f,_,_=>⟨i,l,c,d,f⟩
 | x::os,z,i,l,c,d,f,n,j=>by
   obtain⟨k1,k2⟩:=z6.1 n;have k:=j x (.head _);rw[List.foldl_cons];refine parts_rise m os (kH first last z x) ?_ ?_ ?_ ?_ k.1 k2 λy h=>⟨(j y (.tail _ h)).1,?_⟩
   ·simp only[kH,toP];omega
   ·simp only[kH,toP];omega
   ·exact Xb c zb k.2
   ·exact V1 d f
   ·have:=k1 y h;simp only[kH,toP];omega
def close_rise{os:List Ev}(c:0<=first)(f:RiseTo t.segs first)(k:∀g∈t.segs,∃e,p e/\Qe e g)(l:p e)(d:os.Pairwise λa b=>a.at_<=b.at_)(j:∀x∈os,p x):
    RiseTo (kI first last t e os).segs (max first last)/\∀g∈(kI first last t e os).segs,∃e,p e/\Qe e g:=by
 have:=parts_rise (last:=last) c os (first,e,t) (Int.le_refl _) (by simp only;omega) f k l d λx i=>⟨j x i,by simp only[toP];omega⟩;obtain⟨k1,k2,k3,k4,k5⟩:=this;have h:toP first last last=max first last:=by unfold toP;omega
 unfold kI xT;rw[h];exact⟨Xb k3 zb k2,V1 k4 k5⟩
structure InvR (s:Setup) (p:Ev->Prop) (t:TellS) (m:Int):Prop where
 rise:RiseTo t.segs (qi (match t.open_ with|none=>m|some (f,_)=>f.at_) s.unit)
 of:∀g∈t.segs,∃e,p e/\Qe e g
 opn:∀f os,t.open_=some (f,os)->p f/\f.at_<=m/\os.Pairwise (λa b=>a.at_<=b.at_)/\∀x∈os,p x/\x.at_<=m
section
variable {s:Setup} {p:Ev->Prop} {t:TellS} {m:Int}
def InvR.none(h:InvR s p t m)(a:t.open_=none):RiseTo t.segs (qi m s.unit):=by
 have:=h.rise;rw[a] at this;exact this
def InvR.some{f:Ev}{os:List Ev}(h:InvR s p t m)(a:t.open_=some (f,os)):RiseTo t.segs (qi f.at_ s.unit):=by
 have:=h.rise;rw[a] at this;exact this
def closeP_inv(k:zX s=true){f:Ev}{os:List Ev}(h:InvR s p t m)(a:t.open_=some (f,os)){c:Int}(i:f.at_<=c):
    RiseTo (xx s t f os c).segs (qi c s.unit)/\∀g∈(xx s t f os c).segs,∃e,p e/\Qe e g:=by
 obtain⟨⟨b,d⟩,_⟩:=vH k;obtain⟨k1,k2,k3,k4⟩:=h.opn f os a;have:=close_rise (last:=qi c s.unit) (KZ b d) (h.some a) h.of k1 k3 λx j=>(k4 x j).1;have l:=ZO b d i;rw[show max (qi f.at_ s.unit) (qi c s.unit)=qi c s.unit by omega] at this;exact this
def Qy{e:Ev}{k:Int}(h:InvR s p t m):InvR s p (xb t e k) m:=⟨h.rise,h.of,h.opn⟩
def X7(k:zX s=true)(o:∀e,p e->0<=e.at_/\e.at_<=31449599)(h:InvR s p t m){a:Int}(r:m<=a):InvR s p (jo s t a) a:=by
 obtain⟨⟨i,l⟩,v,u⟩:=vH k;unfold jo;cases b:t.open_ with
 | none=>
   simp only;refine⟨?_,h.of,λf os q=>by rw[b] at q;cases q⟩;rw[b];exact(h.none b).mono (ZO i l r)
 | some q=>
   obtain⟨f,os⟩:=q;obtain⟨k1,k2,k3,k4⟩:=h.opn f os b;have w:=o f k1;simp only;split
   ·rename_i g;rw[qb qg] at g⊢;have:=closeP_inv (t:=xb t f 1) k (Qy h) b (c:=f.at_+s.cap) zb;refine⟨?_,this.2,λ_ _ q=>by cases q⟩;exact this.1.mono (ZO i l (show f.at_+s.cap<=a by omega))
   ·refine⟨?_,h.of,λn d q=>?_⟩
    ·rw[b];exact h.some b
    ·obtain⟨k1,k2,k3,k4⟩:=h.opn n d q;exact⟨k1,zb,k3,λx j=>⟨(k4 x j).1,by have:=(k4 x j).2;omega⟩⟩
def qka(k:zX s=true)(u:∀e,p e->0<=e.at_/\e.at_<=31449599)(h:InvR s p t m){e:Ev}(o:e.kind≠2->p e)(y:m<=e.at_):InvR s p (j7 s t e) e.at_:=by
 have d:=X7 k u h y;unfold j7;by_cases l:e.kind=1
 ·rw[if_pos l];have j:=o zb;cases i:(jo s t e.at_).open_ with
  | none=>
    simp only;refine⟨d.none i,d.of,λf os q=>?_⟩;injection q with q;injection q with q1 q2;subst q1;subst q2;exact⟨j,Int.le_refl _,.nil,λ_ g=>by cases g⟩
  | some q=>
    obtain⟨f,os⟩:=q;simp only;have:=closeP_inv (t:=xb (jo s t e.at_) f 2) k (Qy d) i (c:=e.at_) (d.opn f os i).2.1;refine⟨this.1,this.2,λf os q=>?_⟩;injection q with q;injection q with q1 q2;subst q1;subst q2;exact⟨j,Int.le_refl _,.nil,λ_ g=>by cases g⟩
 ·rw[if_neg l];cases i:(jo s t e.at_).open_ with
  | none=>exact Qy d
  | some q=>
    obtain⟨f,os⟩:=q;simp only;split
    ·have:=closeP_inv k d i (c:=e.at_) (d.opn f os i).2.1;exact⟨this.1,this.2,λ_ _ q=>by cases q⟩
    ·rename_i w;obtain⟨k1,k2,k3,k4⟩:=d.opn f os i;refine⟨d.some i,d.of,λz r q=>?_⟩;injection q with q;injection q with q1 q2;subst q1;subst q2;refine⟨k1,k2,qo.2 ⟨k3,zh,λa v b n=>?_⟩,λx g=>?_⟩
     ·simp at n;subst n;exact(k4 a v).2
     ·rcases zV.1 g with g|g
      ·exact k4 x g
      ·simp at g;subst g;exact⟨o w,Int.le_refl _⟩
def Xc(j:zX s=true)(i:∀e,p e->0<=e.at_/\e.at_<=31449599){w:Int}:∀(l:List Ev) (t:TellS) (m:Int),InvR s p t m->l.Pairwise (λa b=>a.at_<=b.at_)->(∀e∈l,jU s w e=true->(e.kind≠2->p e)/\m<=e.at_/\e.at_<=31449599)->m<=31449599->∃q,q<=31449599/\InvR s p (l.foldl (vF s w) t) q
 | [],t,m,h,_,_,n=>⟨m,n,h⟩
 | e::l,t,m,h,o,g,n=>by
   obtain⟨k1,k2⟩:=z6.1 o;rw[List.foldl_cons];unfold vF;split
   ·rename_i c;have k:=g e (.head _) c;exact Xc j i l _ e.at_ (qka j i h k.1 k.2.1) k2 (λx f d=>⟨(g x (.tail _ f) d).1,k1 x f,(g x (.tail _ f) d).2.2⟩) k.2.2
   ·exact Xc j i l t m h k2 (λx f=>g x (.tail _ f)) n
end
def stream_rise{l:List Ev}(c:zX s=true):
    RiseTo (qq s l w).1 32054400/\∀g∈(qq s l w).1,∃e,(e∈l/\jU s w e=true/\e.kind≠2)/\Qe e g:=by
 obtain⟨⟨j,k⟩,_⟩:=vH c;have i:∀e,(e∈l/\jU s w e=true/\e.kind≠2)->0<=e.at_/\e.at_<=31449599:=λe d=>(yX (Qx (V0.1 d.2.1).2.2)).2.2.2.1
 obtain⟨m,o,hi⟩:=Xc (s:=s) (w:=w) (p:=λe=>e∈l/\jU s w e=true/\e.kind≠2) c i (zS l) ⟨none,[],[]⟩ 0 ⟨⟨λ_ h=>(by cases h),.nil⟩,λ_ h=>(by cases h),λ_ _ h=>(by cases h)⟩ (vIa (xB l)) (λe d b=>by
  have:=(yX (Qx (V0.1 b).2.2)).2.2.2.1;exact⟨λn=>⟨XX.1 d,b,n⟩,zb,zb⟩) zb
 have f:=X7 c i hi (a:=32054400) zb;unfold qq;rw[if_pos c];refine⟨f.rise.mono ?_,f.of⟩;exact jSa j k
end
def spS(g:Seg):Spn:=⟨g.from_,g.to_⟩
def wFa(t:TellS)(x:Int):Prop:=Cov (t.segs.map spS) x
def opF(t:TellS):Option Ev:=t.open_.map (·.1)
structure EqT (a b:TellS):Prop where
 opn:opF a=opF b
 cov:∀x,wFa a x↔wFa b x
section
variable {s:Setup} {a b:TellS}
structure Sim (s:Setup) (p:Ev->Prop) (a b:TellS) (m:Int):Prop where
 ia:InvR s p a m
 ib:InvR s p b m
 eq:EqT (jo s a m) (jo s b m)
end
def QX{p:Ev->Bool}(x:Ev):∀ {l:List Ev},Srt l->(xD x l).filter p=if p x then xD x (l.filter p) else l.filter p
 | [],_=>by
   simp only[xD,List.filter_cons,List.filter_nil]
 | y::l,h=>by
   have h':Srt ([y]++l):=h;have c:=(jN.1 h').2.1;rw[jd];cases b:ltE y x
   ·simp only[Bool.false_eq_true,if_false];rw[List.filter_cons];cases f:p x
    ·simp
    ·simp only[if_true];have a:=VR h b
     have:∀q:List Ev,(∀z∈q,ltE z x=false)->xD x q=x::q:=λq e=>by
      cases q with
      | nil=>rfl
      | cons z q=>rw[jd,e z (.head _)];rfl
     rw[this _ λz d=>a z (qD.1 d).1]
   ·simp only[if_true];rw[List.filter_cons,QX x c];rw[List.filter_cons];cases f:p x<;>cases g:p y<;>simp[jd,b]
def vZ(p:Ev->Bool):∀(l:List Ev),zS (l.filter p)=(zS l).filter p
 | []=>rfl
 | x::l=>by
   rw[List.filter_cons,show zS (x::l)=xD x (zS l) from rfl,QX x (xB l), <-vZ p l];split
   ·rfl
   ·rfl
structure InvB (s:Setup) (t:TellS):Prop where
 seg:∀g∈t.segs,g.kind=0/\g.to_ - g.from_<=s.cap+s.unit
 opn:∀f os,t.open_=some (f,os)->os=[]/\f.kind=1/\0<=f.at_/\f.at_<=31449599
section
variable {s:Setup} {t:TellS}
end
section
variable{x y:Ev}{s:Setup}{w:Int}
def Kc(h:x.id≠y.id):ltE x y= !ltE y x:=by
 cases a:ltE x y<;>cases b:ltE y x<;>try rfl
 ·have:=(xh x y).1 a;have:=(xh y x).1 b;omega
 ·have:=(xw x y).1 a;have:=(xw y x).1 b;omega
def qqa(h:x.id≠y.id):∀(l:List Ev),xD x (xD y l)=xD y (xD x l)
 | []=>by
   have:=Kc h;show xD x [y]=xD y [x];rw[jd,jd,this];cases ltE y x<;>rfl
 | z::l=>by
   have c:=Kc h;rw[jd,jd];cases a:ltE z x<;>cases b:ltE z y<;>simp only[Bool.false_eq_true,if_false,if_true]<;>simp only[jd,a,b,Bool.false_eq_true,if_false,if_true,c]
   ·cases ltE y x<;>simp
   ·have e:ltE y x=false:=by
     refine(xh y x).2 λq=>?_;have:=(xh z x).1 a;have:=(xw z y).1 b;omega
    simp[e]
   ·have e:ltE y x=true:=by
     refine(xw y x).2 ?_;have:=(xw z x).1 a;have:=(xh z y).1 b;omega
    simp[e]
   ·rw[qqa h l]
def Xf:∀(l:List Ev) (t:TellS),l.foldl (vF s w) t=(l.filter (jU s w)).foldl (j7 s) t
 | [],t=>rfl
 | e::l,t=>by
   rw[List.foldl_cons,List.filter_cons];cases h:jU s w e
   ·have a:vF s w t e=t:=(by simp[vF,h]);rw[a,Xf l];rfl
   ·have a:vF s w t e=j7 s t e:=(by simp[vF,h]);rw[a,Xf l];rfl
def jWa{l:List Ev}:goP s w (zS l)=(zS (l.filter (jU s w))).foldl (j7 s) ⟨none,[],[]⟩:=by
 rw[goP,Xf, <-vZ]
def yra(s:Setup)(g:Seg):Seg:=⟨qi g.from_ s.unit,qi g.to_ s.unit,g.kind,g.id,g.code⟩
def wKa(s:Setup)(l:List Seg):List Seg:=(l.map (yra s)).filter λg=>decide (g.from_<g.to_)
structure SimO (s:Setup) (a b:TellS):Prop where
 opn:a.open_=b.open_
 segs:b.segs=wKa s a.segs
 os:∀f os,a.open_=some (f,os)->os=[]/\0<=f.at_/\f.at_<=31449599
section
variable {s:Setup} {a b:TellS}
end
structure FlagIn (done:List Ev) (t:TellS) (G:List (Ev × Int)):Prop where
 flags:t.flags=G.map λp=>⟨p.1.id,p.2⟩
 mem:∀p∈G,p.1∈done/\(p.1.kind=1↔(p.2=1∨p.2=2))
 nodup:(G.map (·.1.id)).Nodup
 opn:∀f os,t.open_=some (f,os)->f∈done/\f.kind=1/\∀p∈G,p.1.id≠f.id
 cnt:(done.countP λe=>e.kind==1)+(G.countP λp=>p.1.kind==2)=(done.countP λe=>e.kind==2)+(G.countP λp=>p.1.kind==1)+(if t.open_.isSome then 1 else 0)
section
variable {s:Setup} {t:TellS} {done:List Ev} {G:List (Ev × Int)}
end
def Wa(x:Ev):∀(l:List Ev),(xD x l).Perm (x::l)
 | []=> .refl _
 | y::l=>by
   rw[jd];split
   ·exact((Wa x l).cons y).trans (.swap x y l)
   ·exact .refl _
def Zy:∀(l:List Ev),(zS l).Perm l
 | []=> .refl _
 | x::l=>(Wa x (zS l)).trans ((Zy l).cons x)
end
