import Derived.Test.YtigdlmpjijhpaaaGreatKA
import Derived.Test.YtigdlmpjijhpaaaGreatK20
set_option linter.all false
namespace Go.Proofs.YtigdlmpjijhpaaaGreat.Ax
def leS(a b:Spn):Prop:=a.from_<=b.from_
def xN(s:Spn):Spn:=⟨max s.from_ 0,min s.to_ 32054400⟩
def jW(l:List Spn):List Spn:=(l.map xN).filter λs=>decide (s.from_<s.to_)
def kA:Spn->List Spn->List Spn
 | c,[]=>[c]
 | c,s::r=>if s.from_<=c.to_ then kA ⟨c.from_,max c.to_ s.to_⟩ r else c::kA s r
def yJ:List Spn->List Spn
 | []=>[]
 | s::r=>kA s r
def XE(l:List Spn):List Spn:=l.mergeSort λa b=>decide (a.from_<=b.from_)
def qg(l:List Spn):List Spn:=yJ (XE (jW l))
def Cov(l:List Spn)(t:Int):Prop:=∃s∈l,s.from_<=t/\t<s.to_
structure PlainS (l:List Spn):Prop where
 pos:∀s∈l,s.from_<s.to_
 gap:l.Pairwise λa b=>a.to_<b.from_
theorem jD{x:Spn}{l:List Spn}{t:Int}:Cov (x::l) t↔(x.from_<=t/\t<x.to_)∨Cov l t:=by
 simp[Cov]
theorem Vh{t:Int}:¬ Cov [] t:=λ⟨_,h,_⟩=>by cases h
theorem Jda{a b:List Spn}{t:Int}:Cov (a++b) t↔Cov a t∨Cov b t:=by
 simp only[Cov,zK]
 constructor
 ·rintro ⟨s,h|h,k⟩
  ·exact .inl ⟨s,h,k⟩
  ·exact .inr ⟨s,h,k⟩
 ·rintro (⟨s,h,k⟩|⟨s,h,k⟩)
  ·exact⟨s,.inl h,k⟩
  ·exact⟨s,.inr h,k⟩
theorem PlainS.tail{x:Spn}{l:List Spn}(h:PlainS (x::l)):PlainS l:=⟨λs k=>h.pos s (.tail _ k),(qu.1 h.gap).2⟩
theorem PlainS.above{x:Spn}{l:List Spn}(h:PlainS (x::l)){t:Int}(k:Cov l t):x.to_<t:=by
 obtain⟨s,a,b,_⟩:=k
 have:=(qu.1 h.gap).1 s a
 omega
theorem PlainS.first{x:Spn}{l:List Spn}(h:PlainS (x::l)){t:Int}(k:Cov (x::l) t):x.from_<=t:=by
 have a:=h.pos x (.head _)
 rcases jD.1 k with k|k
 ·exact k.1
 ·have:=h.above k;omega
theorem Wa:∀ {a b:List Spn},PlainS a->PlainS b->(∀t,Cov a t↔Cov b t)->a=b
 | [],[],_,_,_=>rfl
 | [],y::b,_,c,h=>by
   have f:=c.pos y (.head _)
   exact absurd ((h y.from_).2 (jD.2 (.inl ⟨Int.le_refl _,f⟩))) Vh
 | x::a,[],d,_,h=>by
   have f:=d.pos x (.head _)
   exact absurd ((h x.from_).1 (jD.2 (.inl ⟨Int.le_refl _,f⟩))) Vh
 | x::a,y::b,d,c,h=>by
   have i:=d.pos x (.head _)
   have g:=c.pos y (.head _)
   have j:=c.first ((h x.from_).1 (jD.2 (.inl ⟨Int.le_refl _,i⟩)))
   have m:=d.first ((h y.from_).2 (jD.2 (.inl ⟨Int.le_refl _,g⟩)))
   have n:¬ x.to_<y.to_:=λk=>by
    have:=(h x.to_).2 (jD.2 (.inl ⟨by omega,k⟩))
    rcases jD.1 this with q|q
    ·omega
    ·have:=d.above q;omega
   have l:¬ y.to_<x.to_:=λk=>by
    have:=(h y.to_).1 (jD.2 (.inl ⟨by omega,k⟩))
    rcases jD.1 this with q|q
    ·omega
    ·have:=c.above q;omega
   have e:x=y:=by
    cases x;cases y
    simp only[Spn.mk.injEq] at*
    omega
   subst e
   refine congrArg _ (Wa d.tail c.tail λt=>⟨λk=>?_,λk=>?_⟩)
   ·rcases jD.1 ((h t).1 (jD.2 (.inr k))) with q|q
    ·have:=d.above k;omega
    ·exact q
   ·rcases jD.1 ((h t).2 (jD.2 (.inr k))) with q|q
    ·have:=c.above k;omega
    ·exact q
theorem Z0:∀ {c:Spn} {r:List Spn},c.from_<c.to_->(∀s∈r,s.from_<s.to_)->r.Pairwise leS->(∀s∈r,c.from_<=s.from_)->
  PlainS (kA c r)/\(∀s∈kA c r,c.from_<=s.from_)/\∀t,Cov (kA c r) t↔Cov (c::r) t
 | c,[],g,_,_,_=>by
   have e:kA c []=[c]:=by simp[kA]
   rw[e]
   exact⟨⟨λs h=>by simp at h;subst h;exact g,by simp⟩,λs h=>by simp at h;subst h;exact Int.le_refl _,λt=>Iff.rfl⟩
 | c,s::r,g,l,p,o=>by
   have i:=l s (.head _)
   have d:∀q∈r,q.from_<q.to_:=λq h=>l q (.tail _ h)
   obtain⟨b,f⟩:=qu.1 p
   have m:=o s (.head _)
   unfold kA
   split
   ·rename_i j
    have a:=Z0 (c:=⟨c.from_,max c.to_ s.to_⟩) (r:=r) (by simp only;omega) d f (λq h=>by have:=b q h;simp only[leS] at this ⊢;omega)
    refine⟨a.1,a.2.1,λt=>(a.2.2 t).trans ?_⟩
    rw[jD,jD,jD]
    simp only
    constructor
    ·rintro (k|k)
     ·by_cases n:t<c.to_
      ·exact .inl ⟨k.1,n⟩
      ·exact .inr (.inl ⟨by omega,by omega⟩)
     ·exact .inr (.inr k)
    ·rintro (k|k|k)
     ·exact .inl ⟨k.1,by omega⟩
     ·exact .inl ⟨by omega,by omega⟩
     ·exact .inr k
   ·rename_i j
    have a:=Z0 (c:=s) (r:=r) i d f b
    refine⟨⟨λq h=>?_,qu.2 ⟨λq h=>?_,a.1.gap⟩⟩,λq h=>?_,λt=>?_⟩
    ·rcases zH.1 h with rfl|h
     ·exact g
     ·exact a.1.pos q h
    ·have:=a.2.1 q h;omega
    ·rcases zH.1 h with rfl|h
     ·exact Int.le_refl _
     ·have:=a.2.1 q h;omega
    ·rw[jD,jD,a.2.2 t]
theorem yk{l:List Spn}(a:∀s∈l,s.from_<s.to_)(b:l.Pairwise leS):PlainS (yJ l)/\∀t,Cov (yJ l) t↔Cov l t:=by
 cases l with
 | nil=>exact⟨⟨λ_ h=>(by cases h),List.Pairwise.nil⟩,λ_=>Iff.rfl⟩
 | cons s r=>
   have:=Z0 (a s (.head _)) (λq h=>a q (.tail _ h)) (qu.1 b).2 (qu.1 b).1
   exact⟨this.1,this.2.2⟩
theorem vJ(l:List Spn):(XE l).Perm l:=List.mergeSort_perm l _
theorem Z1(l:List Spn):(XE l).Pairwise leS:=by
 have:=List.pairwise_mergeSort (le:=λa b:Spn=>decide (a.from_<=b.from_)) (λa b c e d=>by simp at *; omega) (λa b=>by simp;omega) l
 exact this.imp λh=>by simpa [leS] using h
theorem XF{a b:List Spn}(h:a.Perm b)(t:Int):Cov a t↔Cov b t:=by
 simp only[Cov]
 exact⟨λ⟨s,k,r⟩=>⟨s,h.mem_iff.1 k,r⟩,λ⟨s,k,r⟩=>⟨s,h.mem_iff.2 k,r⟩⟩
theorem Q9{l:List Spn}:∀s∈jW l,s.from_<s.to_:=λs h=>by
 simp only[jW,qw,decide_eq_true_eq] at h
 exact h.2
theorem wva{l m:List Spn}(b:m.Perm (jW l))(d:m.Pairwise leS):yJ m=qg l:=by
 have p1:∀s∈m,s.from_<s.to_:=λs h=>Q9 s (b.mem_iff.1 h)
 have p2:∀s∈XE (jW l),s.from_<s.to_:=λs h=>Q9 s ((vJ _).mem_iff.1 h)
 have c:=yk p1 d
 have a:=yk p2 (Z1 (jW l))
 refine Wa c.1 a.1 λt=>?_
 rw[c.2,show qg l=yJ (XE (jW l)) from rfl,a.2,XF b,XF (vJ (jW l))]
theorem vf(l:List Spn):PlainS (qg l):=(yk (λs h=>Q9 s ((vJ _).mem_iff.1 h)) (Z1 (jW l))).1
theorem kI(l:List Spn)(t:Int):Cov (qg l) t↔(0<=t/\t<32054400/\Cov l t):=by
 have d:=(yk (λs h=>Q9 s ((vJ _).mem_iff.1 h)) (Z1 (jW l))).2 t
 rw[show qg l=yJ (XE (jW l)) from rfl,d,XF (vJ _)]
 simp only[Cov,jW,qw,zx,decide_eq_true_eq]
 constructor
 ·rintro ⟨s,⟨⟨x,a,rfl⟩,f⟩,c,b⟩
  simp only[xN] at c b
  exact⟨by omega,by omega,x,a,by omega,by omega⟩
 ·rintro ⟨c,b,x,a,g,e⟩
  exact⟨xN x,⟨⟨x,a,rfl⟩,by simp only[xN];omega⟩,by simp only[xN];omega,by simp only[xN];omega⟩
theorem xWa{a b:List Spn}(h:∀t,0<=t->t<32054400->(Cov a t↔Cov b t)):qg a=qg b:=
 Wa (vf a) (vf b) λt=>by
  rw[kI,kI]
  constructor
  ·rintro ⟨d,c,e⟩;exact⟨d,c,(h t d c).1 e⟩
  ·rintro ⟨d,c,e⟩;exact⟨d,c,(h t d c).2 e⟩
def jy(l:List Spn):Int:=(l.map λs=>s.to_ - s.from_).sum
theorem Wb{α:Type}{p:α->Bool}:∀ {l:List α},(∀x∈l,p x=true)->l.filter p=l
 | [],_=>rfl
 | x::l,h=>by rw[List.filter_cons,if_pos (h x (.head _)),Wb λy k=>h y (.tail _ k)]
theorem kE{l:List Spn}:∀s∈qg l,0<=s.from_/\s.from_<s.to_/\s.to_<=32054400:=λs a=>by
 have b:=(vf l).pos s a
 have d:=(kI l s.from_).1 ⟨s,a,by omega,b⟩
 have c:=(kI l (s.to_ - 1)).1 ⟨s,a,by omega,by omega⟩
 omega
theorem JO:∀(c:Spn) (r:List Spn),(kA c r).length<=r.length+1
 | _,[]=>by simp[kA]
 | c,s::r=>by
   unfold kA
   split
   ·have:=JO ⟨c.from_,max c.to_ s.to_⟩ r;simp;omega
   ·have:=JO s r;simp;omega
theorem xXa:∀(l:List Spn),(yJ l).length<=l.length
 | []=>by simp[yJ]
 | s::r=>by simpa [yJ] using JO s r
theorem Ja(l:List Spn):(jW l).length<=l.length:=by
 have:=qt (λs:Spn=>decide (s.from_<s.to_)) (l.map xN)
 simpa [jW] using this
theorem z6(l:List Spn):(qg l).length<=l.length:=by
 have c:=xXa (XE (jW l))
 have a:=(vJ (jW l)).length_eq
 have b:=Ja l
 unfold qg
 omega
open Go Go.Proofs
theorem Zx{lo hi x:Int}(h:Zu lo hi [x]=true):lo<=x/\x<=hi:=by
 simp[Zu,Yb] at h
 omega
theorem Zd{s:Setup}(h:qo s=true):(1<=s.unit/\s.unit<=3600)/\(60<=s.cap/\s.cap<=57600):=by
 simp only[qo,vY,zj] at h
 exact⟨Zx h.1.2.1.1.1.1.2,Zx h.1.2.1.1.1.2⟩
def rqP(t u:Int):Int:=if t % u≥u - t % u then t / u+1 else t / u
theorem XG{t u:Int}(k:1<=u)(a:u<=3600):jH t u=min (rqP (jw t 32054400) u*u) 32054400:=by
 have c0:0<=jw t 32054400:=by unfold jw;omega
 have f:jw t 32054400<=32054400:=by unfold jw;omega
 have g:=Int.emod_nonneg (jw t 32054400) (show u≠0 by omega)
 have m:=Int.emod_lt_of_pos (jw t 32054400) (show 0<u by omega)
 have l:0<=jw t 32054400 / u:=Int.ediv_nonneg c0 (by omega)
 have j:jw t 32054400 / u<=32054400:=Int.le_trans (Int.ediv_le_self _ c0) f
 have e:xL (jw t 32054400) u=(jw t 32054400 / u,jw t 32054400 % u):=by
  unfold xL
  rw[Int.tdiv_eq_ediv_of_nonneg c0,Int.tmod_eq_emod_of_nonneg c0,if_neg (by omega),qb (by unfold Fit;omega)]
 have d:XB (jw t 32054400) u=(rqP (jw t 32054400) u,0):=by
  unfold XB
  rw[if_neg (by omega),e]
  simp only
  rw[qb (n:=u - jw t 32054400 % u) (by unfold Fit;omega)]
  unfold rqP
  split
  ·rw[qb (by unfold Fit;omega)]
  ·rfl
 have c:0<=rqP (jw t 32054400) u:=by unfold rqP;split<;>omega
 have b:rqP (jw t 32054400) u<=32054401:=by unfold rqP;split<;>omega
 have i:rqP (jw t 32054400) u*u<=32054401*3600:=Int.mul_le_mul b a (by omega) (by omega)
 have h:0<=rqP (jw t 32054400) u*u:=Int.mul_nonneg c (by omega)
 unfold jH
 rw[if_neg (by omega),d]
 simp only
 rw[show min u 64108801=u by omega,qb (by unfold Fit;omega)]
theorem Jea{a b u:Int}(f:1<=u)(h:a<=b):rqP a u<=rqP b u:=by
 have i:a / u<=b / u:=Int.ediv_le_ediv (by omega) h
 have d:=Int.emod_add_mul_ediv a u
 have g:=Int.emod_add_mul_ediv b u
 have:=Int.emod_nonneg b (show u≠0 by omega)
 have:=Int.emod_lt_of_pos a (show 0<u by omega)
 unfold rqP
 by_cases c:a / u=b / u
 ·rw[c] at d⊢
  have e:a % u<=b % u:=by omega
  split<;>split<;>omega
 ·split<;>split<;>omega
theorem JP{a b u:Int}(c:1<=u)(d:u<=3600)(h:a<=b):jH a u<=jH b u:=by
 rw[XG c d,XG c d]
 have e:jw a 32054400<=jw b 32054400:=by unfold jw;omega
 have:=Int.mul_le_mul_of_nonneg_right (Jea c e) (show 0<=u by omega)
 omega
theorem zVa{a u:Int}(d:1<=u)(b:u<=3600):0<=jH a u:=by
 rw[XG d b]
 have c0:0<=jw a 32054400:=by unfold jw;omega
 have e:0<=jw a 32054400 / u:=Int.ediv_nonneg c0 (by omega)
 have c:0<=rqP (jw a 32054400) u:=by unfold rqP;split<;>omega
 have:=Int.mul_nonneg c (show 0<=u by omega)
 omega
theorem Zra{a u:Int}(c:1<=u)(b:u<=3600):jH a u<=32054400:=by
 rw[XG c b]
 omega
theorem x0a{k:Int}(h:X8 k=true):1<=k/\k<=7:=by
 simp[X8] at h
 omega
theorem Jb{s:Setup}{e:Ev}(h:ZY s e=true):jx e=true:=by
 unfold ZY at h
 cases a:jx e
 ·rw[a] at h;simp at h
 ·rfl
theorem QI{e:Ev}(h:jx e=true):(1<=e.kind/\e.kind<=7)/\(0<=e.id/\e.id<=100000)/\0<=e.worker/\(0<=e.at_/\e.at_<=31449599)/\(e.kind≠4->e.code=0):=by
 simp only[jx,zj,Bool.not_not] at h
 obtain⟨g,c,a,d,b⟩:=h
 refine⟨x0a g,?_,?_,?_,λf=>?_⟩
 ·simp[ZS] at c;exact c
 ·simp at a;exact a
 ·simp[ZS] at d;exact d
 ·unfold ka at b
  by_cases a:e.kind=3
  ·simp[a] at b;omega
  ·simp[a,f] at b;omega
theorem q9a{s:Setup}{w:Int}{e:Ev}:ZZ s w e=true↔e.worker=w/\e.kind≠7/\ZY s e=true:=by
 simp[ZZ,and_assoc]
theorem Ksa{l:List Ev}(h:Srt l):l.Pairwise λa b=>a.at_<=b.at_:=by
 induction l with
 | nil=>exact .nil
 | cons x l e=>
   have h':Srt ([x]++l):=h
   obtain⟨_,f,c⟩:=xz.1 h'
   refine qu.2 ⟨λy d=>?_,e f⟩
   have:=c x (.head _) y d
   have:=(xT y x).1 this
   omega
structure RiseTo (l:List Seg) (hi:Int):Prop where
 each:∀g∈l,0<=g.from_/\g.from_<g.to_/\g.to_<=hi
 gap:l.Pairwise λa b=>a.to_<=b.from_
theorem RiseTo.mono{l:List Seg}{a b:Int}(h:RiseTo l a)(k:a<=b):RiseTo l b:=⟨λg c=>by have:=h.each g c;omega,h.gap⟩
theorem RiseTo.snoc{l:List Seg}{b:Int}{g:Seg}(h:RiseTo l b)(h0:0<=b)(e:g.from_=b)(d:g.from_<g.to_):RiseTo (l++[g]) g.to_:=by
 refine⟨λx a=>?_,qG.2 ⟨h.gap,by simp,λx a y c=>?_⟩⟩
 ·rcases zK.1 a with a|a
  ·have:=h.each x a;omega
  ·simp at a;subst a;omega
 ·simp at c;subst c
  have:=h.each x a
  omega
def XH(e:Ev)(g:Seg):Prop:=g.id=e.id/\g.kind=Ju e.kind/\g.code=e.code
theorem Wf{t:TellS}{b c:Int}{e:Ev}:(w9 t b c e).segs=if b<c then t.segs++[⟨b,c,Ju e.kind,e.id,e.code⟩] else t.segs:=by
 unfold w9
 split<;>rfl
theorem Wg{t:TellS}{b c:Int}{e:Ev}(h:RiseTo t.segs b)(h0:0<=b)(a:b<=c):RiseTo (w9 t b c e).segs c:=by
 rw[Wf]
 split
 ·exact h.snoc (g:=⟨b,c,Ju e.kind,e.id,e.code⟩) h0 rfl (by simp only;omega)
 ·exact h.mono a
theorem jaa{t:TellS}{b c:Int}{e:Ev}{p:Ev->Prop}(h:∀g∈t.segs,∃e,p e/\XH e g)(d:p e):∀g∈(w9 t b c e).segs,∃e,p e/\XH e g:=λg a=>by
 rw[Wf] at a
 split at a
 ·rcases zK.1 a with a|a
  ·exact h g a
  ·simp at a;subst a;exact⟨e,d,rfl,rfl,rfl⟩
 ·exact h g a
theorem Wh{first last:Int}{p:Ev->Prop}(m:0<=first):∀(os:List Ev) (z:Int × Ev × TellS),first<=z.1->z.1<=max first last->RiseTo z.2.2.segs z.1->(∀g∈z.2.2.segs,∃e,p e/\XH e g)->p z.2.1->
  os.Pairwise (λa b=>a.at_<=b.at_)->(∀x∈os,p x/\z.1<=toP first last x.at_)->
  first<=(os.foldl (yc first last) z).1/\(os.foldl (yc first last) z).1<=max first last/\RiseTo (os.foldl (yc first last) z).2.2.segs (os.foldl (yc first last) z).1/\(∀g∈(os.foldl (yc first last) z).2.2.segs,∃e,p e/\XH e g)/\p (os.foldl (yc first last) z).2.1
 | [],z,k,j,c,f,d,_,_=>⟨k,j,c,f,d⟩
 | x::os,z,k,j,c,f,d,n,i=>by
   obtain⟨k1,k2⟩:=qu.1 n
   have l:=i x (.head _)
   rw[List.foldl_cons]
   refine Wh m os (yc first last z x) ?_ ?_ ?_ ?_ l.1 k2 λy h=>⟨(i y (.tail _ h)).1,?_⟩
   ·simp only[yc,toP];omega
   ·simp only[yc,toP];omega
   ·exact Wg c (by omega) l.2
   ·exact jaa f d
   ·have:=k1 y h
    simp only[yc,toP]
    omega
theorem x1a{first last:Int}{p:Ev->Prop}{t:TellS}{e:Ev}{os:List Ev}(h:0<=first)(d:RiseTo t.segs first)(l:∀g∈t.segs,∃e,p e/\XH e g)(k:p e)(i:os.Pairwise λa b=>a.at_<=b.at_)(c:∀x∈os,p x):
  RiseTo (vP first last t e os).segs (max first last)/\∀g∈(vP first last t e os).segs,∃e,p e/\XH e g:=by
 have:=Wh (last:=last) h os (first,e,t) (Int.le_refl _) (by simp only;omega) d l k i λx j=>⟨c x j,by simp only[toP];omega⟩
 obtain⟨k1,k2,k3,k4,k5⟩:=this
 have f:toP first last last=max first last:=by unfold toP;omega
 unfold vP vc
 rw[f]
 exact⟨Wg k3 (by omega) k2,jaa k4 k5⟩
structure InvR (s:Setup) (p:Ev->Prop) (t:TellS) (m:Int):Prop where
 rise:RiseTo t.segs (jH (match t.open_ with|none=>m|some (f,_)=>f.at_) s.unit)
 of:∀g∈t.segs,∃e,p e/\XH e g
 opn:∀f os,t.open_=some (f,os)->p f/\f.at_<=m/\os.Pairwise (λa b=>a.at_<=b.at_)/\∀x∈os,p x/\x.at_<=m
section
variable {s:Setup} {p:Ev->Prop} {t:TellS} {m:Int}
theorem InvR.none(h:InvR s p t m)(a:t.open_=none):RiseTo t.segs (jH m s.unit):=by
 have:=h.rise;rw[a] at this;exact this
theorem InvR.some{f:Ev}{os:List Ev}(h:InvR s p t m)(a:t.open_=some (f,os)):RiseTo t.segs (jH f.at_ s.unit):=by
 have:=h.rise;rw[a] at this;exact this
theorem JQ(k:qo s=true){f:Ev}{os:List Ev}(h:InvR s p t m)(d:t.open_=some (f,os)){c:Int}(i:f.at_<=c):
  RiseTo (yI s t f os c).segs (jH c s.unit)/\∀g∈(yI s t f os c).segs,∃e,p e/\XH e g:=by
 obtain⟨⟨a,b⟩,_⟩:=Zd k
 obtain⟨k1,k2,k3,k4⟩:=h.opn f os d
 have:=x1a (last:=jH c s.unit) (zVa a b) (h.some d) h.of k1 k3 λx j=>(k4 x j).1
 have l:=JP a b i
 rw[show max (jH f.at_ s.unit) (jH c s.unit)=jH c s.unit by omega] at this
 exact this
theorem Kf{e:Ev}{k:Int}(h:InvR s p t m):InvR s p (vz t e k) m:=⟨h.rise,h.of,h.opn⟩
theorem YS(l:qo s=true)(o:∀e,p e->0<=e.at_/\e.at_<=31449599)(h:InvR s p t m){a:Int}(r:m<=a):InvR s p (jE s t a) a:=by
 obtain⟨⟨i,j⟩,w,u⟩:=Zd l
 unfold jE
 cases b:t.open_ with
 | none=>
   simp only
   refine⟨?_,h.of,λf os q=>by rw[b] at q;cases q⟩
   rw[b]
   exact(h.none b).mono (JP i j r)
 | some q=>
   obtain⟨f,os⟩:=q
   obtain⟨k1,k2,k3,k4⟩:=h.opn f os b
   have v:=o f k1
   simp only
   split
   ·rename_i d
    rw[qb (by unfold Fit;omega)] at d⊢
    have:=JQ (t:=vz t f 1) l (Kf h) b (c:=f.at_+s.cap) (by omega)
    refine⟨?_,this.2,λ_ _ q=>by cases q⟩
    exact this.1.mono (JP i j (show f.at_+s.cap<=a by omega))
   ·refine⟨?_,h.of,λn g q=>?_⟩
    ·rw[b];exact h.some b
    ·obtain⟨k1,k2,k3,k4⟩:=h.opn n g q
     exact⟨k1,by omega,k3,λx k=>⟨(k4 x k).1,by have:=(k4 x k).2;omega⟩⟩
theorem wwa(k:qo s=true)(w:∀e,p e->0<=e.at_/\e.at_<=31449599)(h:InvR s p t m){e:Ev}(l:e.kind≠2->p e)(y:m<=e.at_):InvR s p (wP s t e) e.at_:=by
 have d:=YS k w h y
 unfold wP
 by_cases o:e.kind=1
 ·rw[if_pos o]
  have j:=l (by omega)
  cases i:(jE s t e.at_).open_ with
  | none=>
    simp only
    refine⟨d.none i,d.of,λf os q=>?_⟩
    injection q with q;injection q with q1 q2;subst q1;subst q2
    exact⟨j,Int.le_refl _,.nil,λ_ g=>by cases g⟩
  | some q=>
    obtain⟨f,os⟩:=q
    simp only
    have:=JQ (t:=vz (jE s t e.at_) f 2) k (Kf d) i (c:=e.at_) (d.opn f os i).2.1
    refine⟨this.1,this.2,λf os q=>?_⟩
    injection q with q;injection q with q1 q2;subst q1;subst q2
    exact⟨j,Int.le_refl _,.nil,λ_ g=>by cases g⟩
 ·rw[if_neg o]
  cases i:(jE s t e.at_).open_ with
  | none=>exact Kf d
  | some q=>
    obtain⟨f,os⟩:=q
    simp only
    split
    ·have:=JQ k d i (c:=e.at_) (d.opn f os i).2.1
     exact⟨this.1,this.2,λ_ _ q=>by cases q⟩
    ·rename_i u
     obtain⟨k1,k2,k3,k4⟩:=d.opn f os i
     refine⟨d.some i,d.of,λz r q=>?_⟩
     injection q with q;injection q with q1 q2;subst q1;subst q2
     refine⟨k1,k2,qG.2 ⟨k3,by simp,λa v b n=>?_⟩,λx g=>?_⟩
     ·simp at n;subst n;exact(k4 a v).2
     ·rcases zK.1 g with g|g
      ·exact k4 x g
      ·simp at g;subst g;exact⟨l u,Int.le_refl _⟩
theorem Wi(o:qo s=true)(k:∀e,p e->0<=e.at_/\e.at_<=31449599){w:Int}:∀(l:List Ev) (t:TellS) (m:Int),InvR s p t m->l.Pairwise (λa b=>a.at_<=b.at_)->(∀e∈l,ZZ s w e=true->(e.kind≠2->p e)/\m<=e.at_/\e.at_<=31449599)->m<=31449599->∃q,q<=31449599/\InvR s p (l.foldl (vd s w) t) q
 | [],t,m,h,_,_,n=>⟨m,n,h⟩
 | e::l,t,m,h,j,g,n=>by
   obtain⟨k1,k2⟩:=qu.1 j
   rw[List.foldl_cons]
   unfold vd
   split
   ·rename_i c
    have i:=g e (.head _) c
    exact Wi o k l _ e.at_ (wwa o k h i.1 i.2.1) k2 (λx f d=>⟨(g x (.tail _ f) d).1,k1 x f,(g x (.tail _ f) d).2.2⟩) i.2.2
   ·exact Wi o k l t m h k2 (λx f=>g x (.tail _ f)) n
end
theorem QJ{s:Setup}{l:List Ev}{w:Int}(c:qo s=true):
  RiseTo (qC s l w).1 32054400/\∀g∈(qC s l w).1,∃e,(e∈l/\ZZ s w e=true/\e.kind≠2)/\XH e g:=by
 obtain⟨⟨n,k⟩,_⟩:=Zd c
 have i:∀e,(e∈l/\ZZ s w e=true/\e.kind≠2)->0<=e.at_/\e.at_<=31449599:=λe d=>(QI (Jb (q9a.1 d.2.1).2.2)).2.2.2.1
 obtain⟨m,o,hi⟩:=Wi (s:=s) (w:=w) (p:=λe=>e∈l/\ZZ s w e=true/\e.kind≠2) c i (qj l) ⟨none,[],[]⟩ 0 ⟨⟨λ_ h=>(by cases h),.nil⟩,λ_ h=>(by cases h),λ_ _ h=>(by cases h)⟩ (Ksa (vl l)) (λe d b=>by
  have:=(QI (Jb (q9a.1 b).2.2)).2.2.2.1
  exact⟨λj=>⟨X9.1 d,b,j⟩,by omega,by omega⟩) (by omega)
 have f:=YS c i hi (a:=32054400) (by omega)
 unfold qC
 rw[if_pos c]
 refine⟨f.rise.mono ?_,f.of⟩
 exact Zra n k
def spS(g:Seg):Spn:=⟨g.from_,g.to_⟩
def V7a(t:TellS)(x:Int):Prop:=Cov (t.segs.map spS) x
def opF(t:TellS):Option Ev:=t.open_.map (·.1)
structure EqT (a b:TellS):Prop where
 opn:opF a=opF b
 cov:∀x,V7a a x↔V7a b x
section
variable {s:Setup} {a b:TellS}
structure Sim (s:Setup) (p:Ev->Prop) (a b:TellS) (m:Int):Prop where
 ia:InvR s p a m
 ib:InvR s p b m
 eq:EqT (jE s a m) (jE s b m)
end
theorem KH{p:Ev->Bool}(x:Ev):∀ {l:List Ev},Srt l->(wl x l).filter p=if p x then wl x (l.filter p) else l.filter p
 | [],_=>by
   simp only[wl,List.filter_cons,List.filter_nil]
 | y::l,h=>by
   have h':Srt ([y]++l):=h
   have d:=(xz.1 h').2.1
   rw[jq]
   cases b:ltE y x
   ·simp only[Bool.false_eq_true,if_false]
    rw[List.filter_cons]
    cases f:p x
    ·simp
    ·simp only[if_true]
     have a:=qYa h b
     have:∀q:List Ev,(∀z∈q,ltE z x=false)->wl x q=x::q:=λq e=>by
      cases q with
      | nil=>rfl
      | cons z q=>rw[jq,e z (.head _)];rfl
     rw[this _ λz c=>a z (qw.1 c).1]
   ·simp only[if_true]
    rw[List.filter_cons,KH x d]
    rw[List.filter_cons]
    cases f:p x<;>cases g:p y<;>simp[jq,b]
theorem yl(p:Ev->Bool):∀(l:List Ev),qj (l.filter p)=(qj l).filter p
 | []=>rfl
 | x::l=>by
   rw[List.filter_cons,show qj (x::l)=wl x (qj l) from rfl,KH x (vl l), <-yl p l]
   split
   ·rfl
   ·rfl
structure InvB (s:Setup) (t:TellS):Prop where
 seg:∀g∈t.segs,g.kind=0/\g.to_ - g.from_<=s.cap+s.unit
 opn:∀f os,t.open_=some (f,os)->os=[]/\f.kind=1/\0<=f.at_/\f.at_<=31449599
section
variable {s:Setup} {t:TellS}
end
theorem Y4{x y:Ev}(h:x.id≠y.id):ltE x y= !ltE y x:=by
 cases b:ltE x y<;>cases a:ltE y x<;>try rfl
 ·have:=(xT x y).1 b
  have:=(xT y x).1 a
  omega
 ·have:=(vH x y).1 b
  have:=(vH y x).1 a
  omega
theorem wBa{x y:Ev}(h:x.id≠y.id):∀(l:List Ev),wl x (wl y l)=wl y (wl x l)
 | []=>by
   have:=Y4 h
   show wl x [y]=wl y [x]
   rw[jq,jq,this]
   cases ltE y x<;>rfl
 | z::l=>by
   have c:=Y4 h
   rw[jq,jq]
   cases b:ltE z x<;>cases a:ltE z y<;>simp only[Bool.false_eq_true,if_false,if_true]<;>simp only[jq,b,a,Bool.false_eq_true,if_false,if_true,c]
   ·cases ltE y x<;>simp
   ·have e:ltE y x=false:=by
     refine(xT y x).2 λq=>?_
     have:=(xT z x).1 b
     have:=(vH z y).1 a
     omega
    simp[e]
   ·have e:ltE y x=true:=by
     refine(vH y x).2 ?_
     have:=(vH z x).1 b
     have:=(xT z y).1 a
     omega
    simp[e]
   ·rw[wBa h l]
theorem Wt{s:Setup}{w:Int}:∀(l:List Ev) (t:TellS),l.foldl (vd s w) t=(l.filter (ZZ s w)).foldl (wP s) t
 | [],t=>rfl
 | e::l,t=>by
   rw[List.foldl_cons,List.filter_cons]
   cases h:ZZ s w e
   ·have a:vd s w t e=t:=by simp[vd,h]
    rw[a,Wt l]
    rfl
   ·have a:vd s w t e=wP s t e:=by simp[vd,h]
    rw[a,Wt l]
    rfl
theorem Zza{s:Setup}{w:Int}{l:List Ev}:goP s w (qj l)=(qj (l.filter (ZZ s w))).foldl (wP s) ⟨none,[],[]⟩:=by
 rw[goP,Wt, <-yl]
def Yua(s:Setup)(g:Seg):Seg:=⟨jH g.from_ s.unit,jH g.to_ s.unit,g.kind,g.id,g.code⟩
def Wea(s:Setup)(l:List Seg):List Seg:=(l.map (Yua s)).filter λg=>decide (g.from_<g.to_)
structure SimO (s:Setup) (a b:TellS):Prop where
 opn:a.open_=b.open_
 segs:b.segs=Wea s a.segs
 os:∀f os,a.open_=some (f,os)->os=[]/\0<=f.at_/\f.at_<=31449599
section
variable {s:Setup} {a b:TellS}
end
structure FlagIn (done:List Ev) (t:TellS) (G:List (Ev × Int)):Prop where
 flags:t.flags=G.map λp=>⟨p.1.id,p.2⟩
 mem:∀p∈G,p.1∈done/\(p.1.kind=1↔(p.2=1∨p.2=2))
 nodup:(G.map (·.1.id)).Nodup
 opn:∀f os,t.open_=some (f,os)->f∈done/\f.kind=1/\∀p∈G,p.1.id≠f.id
 cnt:(done.countP λe=>e.kind==1)+(G.countP λp=>p.1.kind==2)=(done.countP λe=>e.kind==2)+(G.countP λp=>p.1.kind==1)+(if t.open_.isSome then 1 else 0)
section
variable {s:Setup} {t:TellS} {done:List Ev} {G:List (Ev × Int)}
end
theorem jja(x:Ev):∀(l:List Ev),(wl x l).Perm (x::l)
 | []=> .refl _
 | y::l=>by
   rw[jq]
   split
   ·exact((jja x l).cons y).trans (.swap x y l)
   ·exact .refl _
theorem vB:∀(l:List Ev),(qj l).Perm l
 | []=> .refl _
 | x::l=>(jja x (qj l)).trans ((vB l).cons x)
