import Derived.Test.YtigdlmpjijhpaaaGreatBA
import Derived.Test.YtigdlmpjijhpaaaGreatB20
set_option linter.all false
namespace Go.Proofs.YtigdlmpjijhpaaaGreat.Ax
def leS(a b:Spn):Prop:=a.from_<=b.from_
def kx(s:Spn):Spn:=⟨max s.from_ 0,min s.to_ 32054400⟩
def xf(l:List Spn):List Spn:=(l.map kx).filter λs=>decide (s.from_<s.to_)
def vc:Spn->List Spn->List Spn
 | c,[]=>[c]
 | c,s::r=>if s.from_<=c.to_ then vc ⟨c.from_,max c.to_ s.to_⟩ r else c::vc s r
def ZB:List Spn->List Spn
 | []=>[]
 | s::r=>vc s r
def KO(l:List Spn):List Spn:=l.mergeSort λa b=>decide (a.from_<=b.from_)
def qw(l:List Spn):List Spn:=ZB (KO (xf l))
def Cov(l:List Spn)(t:Int):Prop:=∃s∈l,s.from_<=t/\t<s.to_
structure PlainS (l:List Spn):Prop where
 pos:∀s∈l,s.from_<s.to_
 gap:l.Pairwise λa b=>a.to_<b.from_
theorem jN{x:Spn}{l:List Spn}{t:Int}:Cov (x::l) t↔(x.from_<=t/\t<x.to_)∨Cov l t:=by
 simp[Cov]
theorem WT{t:Int}:¬ Cov [] t:=λ⟨_,h,_⟩=>by cases h
theorem Vea{a b:List Spn}{t:Int}:Cov (a++b) t↔Cov a t∨Cov b t:=by
 simp only[Cov,zJ]
 constructor
 ·rintro ⟨s,h|h,k⟩
  ·exact .inl ⟨s,h,k⟩
  ·exact .inr ⟨s,h,k⟩
 ·rintro (⟨s,h,k⟩|⟨s,h,k⟩)
  ·exact⟨s,.inl h,k⟩
  ·exact⟨s,.inr h,k⟩
theorem PlainS.tail{x:Spn}{l:List Spn}(h:PlainS (x::l)):PlainS l:=⟨λs k=>h.pos s (.tail _ k),(qg.1 h.gap).2⟩
theorem PlainS.above{x:Spn}{l:List Spn}(h:PlainS (x::l)){t:Int}(k:Cov l t):x.to_<t:=by
 obtain⟨s,a,b,_⟩:=k
 have:=(qg.1 h.gap).1 s a
 omega
theorem PlainS.first{x:Spn}{l:List Spn}(h:PlainS (x::l)){t:Int}(k:Cov (x::l) t):x.from_<=t:=by
 have a:=h.pos x (.head _)
 rcases jN.1 k with k|k
 ·exact k.1
 ·have:=h.above k;omega
theorem YI:∀ {a b:List Spn},PlainS a->PlainS b->(∀t,Cov a t↔Cov b t)->a=b
 | [],[],_,_,_=>rfl
 | [],y::b,_,c,h=>by
   have f:=c.pos y (.head _)
   exact absurd ((h y.from_).2 (jN.2 (.inl ⟨Int.le_refl _,f⟩))) WT
 | x::a,[],d,_,h=>by
   have f:=d.pos x (.head _)
   exact absurd ((h x.from_).1 (jN.2 (.inl ⟨Int.le_refl _,f⟩))) WT
 | x::a,y::b,d,c,h=>by
   have i:=d.pos x (.head _)
   have g:=c.pos y (.head _)
   have m:=c.first ((h x.from_).1 (jN.2 (.inl ⟨Int.le_refl _,i⟩)))
   have n:=d.first ((h y.from_).2 (jN.2 (.inl ⟨Int.le_refl _,g⟩)))
   have l:¬ x.to_<y.to_:=λk=>by
    have:=(h x.to_).2 (jN.2 (.inl ⟨by omega,k⟩))
    rcases jN.1 this with q|q
    ·omega
    ·have:=d.above q;omega
   have j:¬ y.to_<x.to_:=λk=>by
    have:=(h y.to_).1 (jN.2 (.inl ⟨by omega,k⟩))
    rcases jN.1 this with q|q
    ·omega
    ·have:=c.above q;omega
   have e:x=y:=by
    cases x;cases y
    simp only[Spn.mk.injEq] at*
    omega
   subst e
   refine congrArg _ (YI d.tail c.tail λt=>⟨λk=>?_,λk=>?_⟩)
   ·rcases jN.1 ((h t).1 (jN.2 (.inr k))) with q|q
    ·have:=d.above k;omega
    ·exact q
   ·rcases jN.1 ((h t).2 (jN.2 (.inr k))) with q|q
    ·have:=c.above k;omega
    ·exact q
theorem QP:∀ {c:Spn} {r:List Spn},c.from_<c.to_->(∀s∈r,s.from_<s.to_)->r.Pairwise leS->(∀s∈r,c.from_<=s.from_)->
  PlainS (vc c r)/\(∀s∈vc c r,c.from_<=s.from_)/\∀t,Cov (vc c r) t↔Cov (c::r) t
 | c,[],i,_,_,_=>by
   have e:vc c []=[c]:=by simp[vc]
   rw[e]
   exact⟨⟨λs h=>by simp at h;subst h;exact i,by simp⟩,λs h=>by simp at h;subst h;exact Int.le_refl _,λt=>Iff.rfl⟩
 | c,s::r,i,l,o,m=>by
   have j:=l s (.head _)
   have f:∀q∈r,q.from_<q.to_:=λq h=>l q (.tail _ h)
   obtain⟨b,d⟩:=qg.1 o
   have p:=m s (.head _)
   unfold vc
   split
   ·rename_i g
    have a:=QP (c:=⟨c.from_,max c.to_ s.to_⟩) (r:=r) (by simp only;omega) f d (λq h=>by have:=b q h;simp only[leS] at this ⊢;omega)
    refine⟨a.1,a.2.1,λt=>(a.2.2 t).trans ?_⟩
    rw[jN,jN,jN]
    simp only
    constructor
    ·rintro (k|k)
     ·by_cases n:t<c.to_
      ·exact .inl ⟨k.1,n⟩
      ·exact .inr (.inl ⟨by omega,by omega⟩)
     ·exact .inr (.inr k)
    ·rintro (k|k|k)
     ·exact .inl ⟨k.1,by omega⟩
     ·exact .inl ⟨by omega,by omega⟩
     ·exact .inr k
   ·rename_i g
    have a:=QP (c:=s) (r:=r) j f d b
    refine⟨⟨λq h=>?_,qg.2 ⟨λq h=>?_,a.1.gap⟩⟩,λq h=>?_,λt=>?_⟩
    ·rcases zE.1 h with rfl|h
     ·exact i
     ·exact a.1.pos q h
    ·have:=a.2.1 q h;omega
    ·rcases zE.1 h with rfl|h
     ·exact Int.le_refl _
     ·have:=a.2.1 q h;omega
    ·rw[jN,jN,a.2.2 t]
theorem Zg{l:List Spn}(a:∀s∈l,s.from_<s.to_)(b:l.Pairwise leS):PlainS (ZB l)/\∀t,Cov (ZB l) t↔Cov l t:=by
 cases l with
 | nil=>exact⟨⟨λ_ h=>(by cases h),List.Pairwise.nil⟩,λ_=>Iff.rfl⟩
 | cons s r=>
   have:=QP (a s (.head _)) (λq h=>a q (.tail _ h)) (qg.1 b).2 (qg.1 b).1
   exact⟨this.1,this.2.2⟩
theorem wx(l:List Spn):(KO l).Perm l:=List.mergeSort_perm l _
theorem QQ(l:List Spn):(KO l).Pairwise leS:=by
 have:=List.pairwise_mergeSort (le:=λa b:Spn=>decide (a.from_<=b.from_)) (λa b c e d=>by simp at *; omega) (λa b=>by simp;omega) l
 exact this.imp λh=>by simpa [leS] using h
theorem KP{a b:List Spn}(h:a.Perm b)(t:Int):Cov a t↔Cov b t:=by
 simp only[Cov]
 exact⟨λ⟨s,k,r⟩=>⟨s,h.mem_iff.1 k,r⟩,λ⟨s,k,r⟩=>⟨s,h.mem_iff.2 k,r⟩⟩
theorem Xg{l:List Spn}:∀s∈xf l,s.from_<s.to_:=λs h=>by
 simp only[xf,qq,decide_eq_true_eq] at h
 exact h.2
theorem ZXa{l m:List Spn}(a:m.Perm (xf l))(d:m.Pairwise leS):ZB m=qw l:=by
 have p1:∀s∈m,s.from_<s.to_:=λs h=>Xg s (a.mem_iff.1 h)
 have p2:∀s∈KO (xf l),s.from_<s.to_:=λs h=>Xg s ((wx _).mem_iff.1 h)
 have c:=Zg p1 d
 have b:=Zg p2 (QQ (xf l))
 refine YI c.1 b.1 λt=>?_
 rw[c.2,show qw l=ZB (KO (xf l)) from rfl,b.2,KP a,KP (wx (xf l))]
theorem vN(l:List Spn):PlainS (qw l):=(Zg (λs h=>Xg s ((wx _).mem_iff.1 h)) (QQ (xf l))).1
theorem vq(l:List Spn)(t:Int):Cov (qw l) t↔(0<=t/\t<32054400/\Cov l t):=by
 have d:=(Zg (λs h=>Xg s ((wx _).mem_iff.1 h)) (QQ (xf l))).2 t
 rw[show qw l=ZB (KO (xf l)) from rfl,d,KP (wx _)]
 simp only[Cov,xf,qq,zw,decide_eq_true_eq]
 constructor
 ·rintro ⟨s,⟨⟨x,a,rfl⟩,g⟩,b,c⟩
  simp only[kx] at b c
  exact⟨by omega,by omega,x,a,by omega,by omega⟩
 ·rintro ⟨b,c,x,a,e,f⟩
  exact⟨kx x,⟨⟨x,a,rfl⟩,by simp only[kx];omega⟩,by simp only[kx];omega,by simp only[kx];omega⟩
theorem v5a{a b:List Spn}(h:∀t,0<=t->t<32054400->(Cov a t↔Cov b t)):qw a=qw b:=
 YI (vN a) (vN b) λt=>by
  rw[vq,vq]
  constructor
  ·rintro ⟨d,c,e⟩;exact⟨d,c,(h t d c).1 e⟩
  ·rintro ⟨d,c,e⟩;exact⟨d,c,(h t d c).2 e⟩
def jK(l:List Spn):Int:=(l.map λs=>s.to_ - s.from_).sum
theorem YJ{α:Type}{p:α->Bool}:∀ {l:List α},(∀x∈l,p x=true)->l.filter p=l
 | [],_=>rfl
 | x::l,h=>by rw[List.filter_cons,if_pos (h x (.head _)),YJ λy k=>h y (.tail _ k)]
theorem vk{l:List Spn}:∀s∈qw l,0<=s.from_/\s.from_<s.to_/\s.to_<=32054400:=λs a=>by
 have b:=(vN l).pos s a
 have d:=(vq l s.from_).1 ⟨s,a,by omega,b⟩
 have c:=(vq l (s.to_ - 1)).1 ⟨s,a,by omega,by omega⟩
 omega
theorem XY:∀(c:Spn) (r:List Spn),(vc c r).length<=r.length+1
 | _,[]=>by simp[vc]
 | c,s::r=>by
   unfold vc
   split
   ·have:=XY ⟨c.from_,max c.to_ s.to_⟩ r;simp;omega
   ·have:=XY s r;simp;omega
theorem v6a:∀(l:List Spn),(ZB l).length<=l.length
 | []=>by simp[ZB]
 | s::r=>by simpa [ZB] using XY s r
theorem Xh(l:List Spn):(xf l).length<=l.length:=by
 have:=qo (λs:Spn=>decide (s.from_<s.to_)) (l.map kx)
 simpa [xf] using this
theorem qh(l:List Spn):(qw l).length<=l.length:=by
 have c:=v6a (KO (xf l))
 have a:=(wx (xf l)).length_eq
 have b:=Xh l
 unfold qw
 omega
open Go Go.Proofs
theorem Qj{lo hi x:Int}(h:Qh lo hi [x]=true):lo<=x/\x<=hi:=by
 simp[Qh,z7a] at h
 omega
theorem Z0{s:Setup}(h:qv s=true):(1<=s.unit/\s.unit<=3600)/\(60<=s.cap/\s.cap<=57600):=by
 simp only[qv,wL,zl] at h
 exact⟨Qj h.1.2.1.1.1.1.2,Qj h.1.2.1.1.1.2⟩
def rqP(t u:Int):Int:=if t % u≥u - t % u then t / u+1 else t / u
theorem KQ{t u:Int}(g:1<=u)(b:u<=3600):jS t u=min (rqP (jl t 32054400) u*u) 32054400:=by
 have c0:0<=jl t 32054400:=by unfold jl;omega
 have d:jl t 32054400<=32054400:=by unfold jl;omega
 have i:=Int.emod_nonneg (jl t 32054400) (show u≠0 by omega)
 have j:=Int.emod_lt_of_pos (jl t 32054400) (show 0<u by omega)
 have k:0<=jl t 32054400 / u:=Int.ediv_nonneg c0 (by omega)
 have m:jl t 32054400 / u<=32054400:=Int.le_trans (Int.ediv_le_self _ c0) d
 have c:kw (jl t 32054400) u=(jl t 32054400 / u,jl t 32054400 % u):=by
  unfold kw
  rw[Int.tdiv_eq_ediv_of_nonneg c0,Int.tmod_eq_emod_of_nonneg c0,if_neg (by omega),qp (by unfold Fit;omega)]
 have f:KL (jl t 32054400) u=(rqP (jl t 32054400) u,0):=by
  unfold KL
  rw[if_neg (by omega),c]
  simp only
  rw[qp (n:=u - jl t 32054400 % u) (by unfold Fit;omega)]
  unfold rqP
  split
  ·rw[qp (by unfold Fit;omega)]
  ·rfl
 have a:0<=rqP (jl t 32054400) u:=by unfold rqP;split<;>omega
 have e:rqP (jl t 32054400) u<=32054401:=by unfold rqP;split<;>omega
 have h:rqP (jl t 32054400) u*u<=32054401*3600:=Int.mul_le_mul e b (by omega) (by omega)
 have l:0<=rqP (jl t 32054400) u*u:=Int.mul_nonneg a (by omega)
 unfold jS
 rw[if_neg (by omega),f]
 simp only
 rw[show min u 64108801=u by omega,qp (by unfold Fit;omega)]
theorem Vfa{a b u:Int}(f:1<=u)(h:a<=b):rqP a u<=rqP b u:=by
 have e:a / u<=b / u:=Int.ediv_le_ediv (by omega) h
 have d:=Int.emod_add_mul_ediv a u
 have i:=Int.emod_add_mul_ediv b u
 have:=Int.emod_nonneg b (show u≠0 by omega)
 have:=Int.emod_lt_of_pos a (show 0<u by omega)
 unfold rqP
 by_cases c:a / u=b / u
 ·rw[c] at d⊢
  have g:a % u<=b % u:=by omega
  split<;>split<;>omega
 ·split<;>split<;>omega
theorem XZ{a b u:Int}(c:1<=u)(d:u<=3600)(h:a<=b):jS a u<=jS b u:=by
 rw[KQ c d,KQ c d]
 have e:jl a 32054400<=jl b 32054400:=by unfold jl;omega
 have:=Int.mul_le_mul_of_nonneg_right (Vfa c e) (show 0<=u by omega)
 omega
theorem jMa{a u:Int}(d:1<=u)(c:u<=3600):0<=jS a u:=by
 rw[KQ d c]
 have c0:0<=jl a 32054400:=by unfold jl;omega
 have e:0<=jl a 32054400 / u:=Int.ediv_nonneg c0 (by omega)
 have b:0<=rqP (jl a 32054400) u:=by unfold rqP;split<;>omega
 have:=Int.mul_nonneg b (show 0<=u by omega)
 omega
theorem JXa{a u:Int}(c:1<=u)(b:u<=3600):jS a u<=32054400:=by
 rw[KQ c b]
 omega
theorem v7a{k:Int}(h:Vw k=true):1<=k/\k<=7:=by
 simp[Vw] at h
 omega
theorem Qk{s:Setup}{e:Ev}(h:wi s e=true):jJ e=true:=by
 unfold wi at h
 cases a:jJ e
 ·rw[a] at h;simp at h
 ·rfl
theorem Z1{e:Ev}(h:jJ e=true):(1<=e.kind/\e.kind<=7)/\(0<=e.id/\e.id<=100000)/\0<=e.worker/\(0<=e.at_/\e.at_<=31449599)/\(e.kind≠4->e.code=0):=by
 simp only[jJ,zl,Bool.not_not] at h
 obtain⟨f,c,a,d,b⟩:=h
 refine⟨v7a f,?_,?_,?_,λg=>?_⟩
 ·simp[QH] at c;exact c
 ·simp at a;exact a
 ·simp[QH] at d;exact d
 ·unfold kR at b
  by_cases a:e.kind=3
  ·simp[a] at b;omega
  ·simp[a,g] at b;omega
theorem x2a{s:Setup}{w:Int}{e:Ev}:QO s w e=true↔e.worker=w/\e.kind≠7/\wi s e=true:=by
 simp[QO,and_assoc]
theorem YFa{l:List Ev}(h:Srt l):l.Pairwise λa b=>a.at_<=b.at_:=by
 induction l with
 | nil=>exact .nil
 | cons x l f=>
   have h':Srt ([x]++l):=h
   obtain⟨_,e,d⟩:=xW.1 h'
   refine qg.2 ⟨λy c=>?_,f e⟩
   have:=d x (.head _) y c
   have:=(kJ y x).1 this
   omega
structure RiseTo (l:List Seg) (hi:Int):Prop where
 each:∀g∈l,0<=g.from_/\g.from_<g.to_/\g.to_<=hi
 gap:l.Pairwise λa b=>a.to_<=b.from_
theorem RiseTo.mono{l:List Seg}{a b:Int}(h:RiseTo l a)(k:a<=b):RiseTo l b:=⟨λg c=>by have:=h.each g c;omega,h.gap⟩
theorem RiseTo.snoc{l:List Seg}{b:Int}{g:Seg}(h:RiseTo l b)(h0:0<=b)(e:g.from_=b)(d:g.from_<g.to_):RiseTo (l++[g]) g.to_:=by
 refine⟨λx a=>?_,qV.2 ⟨h.gap,by simp,λx a y c=>?_⟩⟩
 ·rcases zJ.1 a with a|a
  ·have:=h.each x a;omega
  ·simp at a;subst a;omega
 ·simp at c;subst c
  have:=h.each x a
  omega
def KR(e:Ev)(g:Seg):Prop:=g.id=e.id/\g.kind=XD e.kind/\g.code=e.code
theorem YK{t:TellS}{b c:Int}{e:Ev}:(y8 t b c e).segs=if b<c then t.segs++[⟨b,c,XD e.kind,e.id,e.code⟩] else t.segs:=by
 unfold y8
 split<;>rfl
theorem YL{t:TellS}{b c:Int}{e:Ev}(h:RiseTo t.segs b)(h0:0<=b)(a:b<=c):RiseTo (y8 t b c e).segs c:=by
 rw[YK]
 split
 ·exact h.snoc (g:=⟨b,c,XD e.kind,e.id,e.code⟩) h0 rfl (by simp only;omega)
 ·exact h.mono a
theorem x3a{t:TellS}{b c:Int}{e:Ev}{p:Ev->Prop}(h:∀g∈t.segs,∃e,p e/\KR e g)(d:p e):∀g∈(y8 t b c e).segs,∃e,p e/\KR e g:=λg a=>by
 rw[YK] at a
 split at a
 ·rcases zJ.1 a with a|a
  ·exact h g a
  ·simp at a;subst a;exact⟨e,d,rfl,rfl,rfl⟩
 ·exact h g a
theorem YM{first last:Int}{p:Ev->Prop}(m:0<=first):∀(os:List Ev) (z:Int × Ev × TellS),first<=z.1->z.1<=max first last->RiseTo z.2.2.segs z.1->(∀g∈z.2.2.segs,∃e,p e/\KR e g)->p z.2.1->
  os.Pairwise (λa b=>a.at_<=b.at_)->(∀x∈os,p x/\z.1<=toP first last x.at_)->
  first<=(os.foldl (y9 first last) z).1/\(os.foldl (y9 first last) z).1<=max first last/\RiseTo (os.foldl (y9 first last) z).2.2.segs (os.foldl (y9 first last) z).1/\(∀g∈(os.foldl (y9 first last) z).2.2.segs,∃e,p e/\KR e g)/\p (os.foldl (y9 first last) z).2.1
 | [],z,i,h,d,c,f,_,_=>⟨i,h,d,c,f⟩
 | x::os,z,i,h,d,c,f,n,j=>by
   obtain⟨k1,k2⟩:=qg.1 n
   have k:=j x (.head _)
   rw[List.foldl_cons]
   refine YM m os (y9 first last z x) ?_ ?_ ?_ ?_ k.1 k2 λy l=>⟨(j y (.tail _ l)).1,?_⟩
   ·simp only[y9,toP];omega
   ·simp only[y9,toP];omega
   ·exact YL d (by omega) k.2
   ·exact x3a c f
   ·have:=k1 y l
    simp only[y9,toP]
    omega
theorem v8a{first last:Int}{p:Ev->Prop}{t:TellS}{e:Ev}{os:List Ev}(c:0<=first)(i:RiseTo t.segs first)(f:∀g∈t.segs,∃e,p e/\KR e g)(j:p e)(d:os.Pairwise λa b=>a.at_<=b.at_)(h:∀x∈os,p x):
  RiseTo (wB first last t e os).segs (max first last)/\∀g∈(wB first last t e os).segs,∃e,p e/\KR e g:=by
 have:=YM (last:=last) c os (first,e,t) (Int.le_refl _) (by simp only;omega) i f j d λx k=>⟨h x k,by simp only[toP];omega⟩
 obtain⟨k1,k2,k3,k4,k5⟩:=this
 have l:toP first last last=max first last:=by unfold toP;omega
 unfold wB vL
 rw[l]
 exact⟨YL k3 (by omega) k2,x3a k4 k5⟩
structure InvR (s:Setup) (p:Ev->Prop) (t:TellS) (m:Int):Prop where
 rise:RiseTo t.segs (jS (match t.open_ with|none=>m|some (f,_)=>f.at_) s.unit)
 of:∀g∈t.segs,∃e,p e/\KR e g
 opn:∀f os,t.open_=some (f,os)->p f/\f.at_<=m/\os.Pairwise (λa b=>a.at_<=b.at_)/\∀x∈os,p x/\x.at_<=m
section
variable {s:Setup} {p:Ev->Prop} {t:TellS} {m:Int}
theorem InvR.none(h:InvR s p t m)(a:t.open_=none):RiseTo t.segs (jS m s.unit):=by
 have:=h.rise;rw[a] at this;exact this
theorem InvR.some{f:Ev}{os:List Ev}(h:InvR s p t m)(a:t.open_=some (f,os)):RiseTo t.segs (jS f.at_ s.unit):=by
 have:=h.rise;rw[a] at this;exact this
theorem X0(j:qv s=true){f:Ev}{os:List Ev}(h:InvR s p t m)(d:t.open_=some (f,os)){c:Int}(i:f.at_<=c):
  RiseTo (ZA s t f os c).segs (jS c s.unit)/\∀g∈(ZA s t f os c).segs,∃e,p e/\KR e g:=by
 obtain⟨⟨a,b⟩,_⟩:=Z0 j
 obtain⟨k1,k2,k3,k4⟩:=h.opn f os d
 have:=v8a (last:=jS c s.unit) (jMa a b) (h.some d) h.of k1 k3 λx k=>(k4 x k).1
 have l:=XZ a b i
 rw[show max (jS f.at_ s.unit) (jS c s.unit)=jS c s.unit by omega] at this
 exact this
theorem VB{e:Ev}{k:Int}(h:InvR s p t m):InvR s p (wh t e k) m:=⟨h.rise,h.of,h.opn⟩
theorem qMa(k:qv s=true)(n:∀e,p e->0<=e.at_/\e.at_<=31449599)(h:InvR s p t m){a:Int}(r:m<=a):InvR s p (jO s t a) a:=by
 obtain⟨⟨i,j⟩,v,w⟩:=Z0 k
 unfold jO
 cases b:t.open_ with
 | none=>
   simp only
   refine⟨?_,h.of,λf os q=>by rw[b] at q;cases q⟩
   rw[b]
   exact(h.none b).mono (XZ i j r)
 | some q=>
   obtain⟨f,os⟩:=q
   obtain⟨k1,k2,k3,k4⟩:=h.opn f os b
   have u:=n f k1
   simp only
   split
   ·rename_i d
    rw[qp (by unfold Fit;omega)] at d⊢
    have:=X0 (t:=wh t f 1) k (VB h) b (c:=f.at_+s.cap) (by omega)
    refine⟨?_,this.2,λ_ _ q=>by cases q⟩
    exact this.1.mono (XZ i j (show f.at_+s.cap<=a by omega))
   ·refine⟨?_,h.of,λo g q=>?_⟩
    ·rw[b];exact h.some b
    ·obtain⟨k1,k2,k3,k4⟩:=h.opn o g q
     exact⟨k1,by omega,k3,λx l=>⟨(k4 x l).1,by have:=(k4 x l).2;omega⟩⟩
theorem ZYa(k:qv s=true)(u:∀e,p e->0<=e.at_/\e.at_<=31449599)(h:InvR s p t m){e:Ev}(n:e.kind≠2->p e)(w:m<=e.at_):InvR s p (yK s t e) e.at_:=by
 have g:=qMa k u h w
 unfold yK
 by_cases l:e.kind=1
 ·rw[if_pos l]
  have j:=n (by omega)
  cases i:(jO s t e.at_).open_ with
  | none=>
    simp only
    refine⟨g.none i,g.of,λf os q=>?_⟩
    injection q with q;injection q with q1 q2;subst q1;subst q2
    exact⟨j,Int.le_refl _,.nil,λ_ d=>by cases d⟩
  | some q=>
    obtain⟨f,os⟩:=q
    simp only
    have:=X0 (t:=wh (jO s t e.at_) f 2) k (VB g) i (c:=e.at_) (g.opn f os i).2.1
    refine⟨this.1,this.2,λf os q=>?_⟩
    injection q with q;injection q with q1 q2;subst q1;subst q2
    exact⟨j,Int.le_refl _,.nil,λ_ d=>by cases d⟩
 ·rw[if_neg l]
  cases i:(jO s t e.at_).open_ with
  | none=>exact VB g
  | some q=>
    obtain⟨f,os⟩:=q
    simp only
    split
    ·have:=X0 k g i (c:=e.at_) (g.opn f os i).2.1
     exact⟨this.1,this.2,λ_ _ q=>by cases q⟩
    ·rename_i r
     obtain⟨k1,k2,k3,k4⟩:=g.opn f os i
     refine⟨g.some i,g.of,λz y q=>?_⟩
     injection q with q;injection q with q1 q2;subst q1;subst q2
     refine⟨k1,k2,qV.2 ⟨k3,by simp,λa v b o=>?_⟩,λx d=>?_⟩
     ·simp at o;subst o;exact(k4 a v).2
     ·rcases zJ.1 d with d|d
      ·exact k4 x d
      ·simp at d;subst d;exact⟨n r,Int.le_refl _⟩
theorem YN(o:qv s=true)(i:∀e,p e->0<=e.at_/\e.at_<=31449599){w:Int}:∀(l:List Ev) (t:TellS) (m:Int),InvR s p t m->l.Pairwise (λa b=>a.at_<=b.at_)->(∀e∈l,QO s w e=true->(e.kind≠2->p e)/\m<=e.at_/\e.at_<=31449599)->m<=31449599->∃q,q<=31449599/\InvR s p (l.foldl (vM s w) t) q
 | [],t,m,h,_,_,n=>⟨m,n,h⟩
 | e::l,t,m,h,k,g,n=>by
   obtain⟨k1,k2⟩:=qg.1 k
   rw[List.foldl_cons]
   unfold vM
   split
   ·rename_i c
    have j:=g e (.head _) c
    exact YN o i l _ e.at_ (ZYa o i h j.1 j.2.1) k2 (λx f d=>⟨(g x (.tail _ f) d).1,k1 x f,(g x (.tail _ f) d).2.2⟩) j.2.2
   ·exact YN o i l t m h k2 (λx f=>g x (.tail _ f)) n
end
theorem JG{s:Setup}{l:List Ev}{w:Int}(c:qv s=true):
  RiseTo (qF s l w).1 32054400/\∀g∈(qF s l w).1,∃e,(e∈l/\QO s w e=true/\e.kind≠2)/\KR e g:=by
 obtain⟨⟨j,k⟩,_⟩:=Z0 c
 have f:∀e,(e∈l/\QO s w e=true/\e.kind≠2)->0<=e.at_/\e.at_<=31449599:=λe d=>(Z1 (Qk (x2a.1 d.2.1).2.2)).2.2.2.1
 obtain⟨m,o,hi⟩:=YN (s:=s) (w:=w) (p:=λe=>e∈l/\QO s w e=true/\e.kind≠2) c f (qu l) ⟨none,[],[]⟩ 0 ⟨⟨λ_ h=>(by cases h),.nil⟩,λ_ h=>(by cases h),λ_ _ h=>(by cases h)⟩ (YFa (vp l)) (λe d b=>by
  have:=(Z1 (Qk (x2a.1 b).2.2)).2.2.2.1
  exact⟨λn=>⟨Vx.1 d,b,n⟩,by omega,by omega⟩) (by omega)
 have i:=qMa c f hi (a:=32054400) (by omega)
 unfold qF
 rw[if_pos c]
 refine⟨i.rise.mono ?_,i.of⟩
 exact JXa j k
def spS(g:Seg):Spn:=⟨g.from_,g.to_⟩
def qJb(t:TellS)(x:Int):Prop:=Cov (t.segs.map spS) x
def opF(t:TellS):Option Ev:=t.open_.map (·.1)
structure EqT (a b:TellS):Prop where
 opn:opF a=opF b
 cov:∀x,qJb a x↔qJb b x
section
variable {s:Setup} {a b:TellS}
structure Sim (s:Setup) (p:Ev->Prop) (a b:TellS) (m:Int):Prop where
 ia:InvR s p a m
 ib:InvR s p b m
 eq:EqT (jO s a m) (jO s b m)
end
theorem Wi{p:Ev->Bool}(x:Ev):∀ {l:List Ev},Srt l->(wW x l).filter p=if p x then wW x (l.filter p) else l.filter p
 | [],_=>by
   simp only[wW,List.filter_cons,List.filter_nil]
 | y::l,h=>by
   have h':Srt ([y]++l):=h
   have f:=(xW.1 h').2.1
   rw[jB]
   cases a:ltE y x
   ·simp only[Bool.false_eq_true,if_false]
    rw[List.filter_cons]
    cases d:p x
    ·simp
    ·simp only[if_true]
     have b:=xXa h a
     have:∀q:List Ev,(∀z∈q,ltE z x=false)->wW x q=x::q:=λq c=>by
      cases q with
      | nil=>rfl
      | cons z q=>rw[jB,c z (.head _)];rfl
     rw[this _ λz e=>b z (qq.1 e).1]
   ·simp only[if_true]
    rw[List.filter_cons,Wi x f]
    rw[List.filter_cons]
    cases d:p x<;>cases g:p y<;>simp[jB,a]
theorem Zh(p:Ev->Bool):∀(l:List Ev),qu (l.filter p)=(qu l).filter p
 | []=>rfl
 | x::l=>by
   rw[List.filter_cons,show qu (x::l)=wW x (qu l) from rfl,Wi x (vp l), <-Zh p l]
   split
   ·rfl
   ·rfl
structure InvB (s:Setup) (t:TellS):Prop where
 seg:∀g∈t.segs,g.kind=0/\g.to_ - g.from_<=s.cap+s.unit
 opn:∀f os,t.open_=some (f,os)->os=[]/\f.kind=1/\0<=f.at_/\f.at_<=31449599
section
variable {s:Setup} {t:TellS}
end
theorem qNa{x y:Ev}(h:x.id≠y.id):ltE x y= !ltE y x:=by
 cases b:ltE x y<;>cases a:ltE y x<;>try rfl
 ·have:=(kJ x y).1 b
  have:=(kJ y x).1 a
  omega
 ·have:=(wv x y).1 b
  have:=(wv y x).1 a
  omega
theorem ZZa{x y:Ev}(h:x.id≠y.id):∀(l:List Ev),wW x (wW y l)=wW y (wW x l)
 | []=>by
   have:=qNa h
   show wW x [y]=wW y [x]
   rw[jB,jB,this]
   cases ltE y x<;>rfl
 | z::l=>by
   have c:=qNa h
   rw[jB,jB]
   cases b:ltE z x<;>cases a:ltE z y<;>simp only[Bool.false_eq_true,if_false,if_true]<;>simp only[jB,b,a,Bool.false_eq_true,if_false,if_true,c]
   ·cases ltE y x<;>simp
   ·have e:ltE y x=false:=by
     refine(kJ y x).2 λq=>?_
     have:=(kJ z x).1 b
     have:=(wv z y).1 a
     omega
    simp[e]
   ·have e:ltE y x=true:=by
     refine(wv y x).2 ?_
     have:=(wv z x).1 b
     have:=(kJ z y).1 a
     omega
    simp[e]
   ·rw[ZZa h l]
theorem YO{s:Setup}{w:Int}:∀(l:List Ev) (t:TellS),l.foldl (vM s w) t=(l.filter (QO s w)).foldl (yK s) t
 | [],t=>rfl
 | e::l,t=>by
   rw[List.foldl_cons,List.filter_cons]
   cases h:QO s w e
   ·have a:vM s w t e=t:=by simp[vM,h]
    rw[a,YO l]
    rfl
   ·have a:vM s w t e=yK s t e:=by simp[vM,h]
    rw[a,YO l]
    rfl
theorem JYa{s:Setup}{w:Int}{l:List Ev}:goP s w (qu l)=(qu (l.filter (QO s w))).foldl (yK s) ⟨none,[],[]⟩:=by
 rw[goP,YO, <-Zh]
def xob(s:Setup)(g:Seg):Seg:=⟨jS g.from_ s.unit,jS g.to_ s.unit,g.kind,g.id,g.code⟩
def qKb(s:Setup)(l:List Seg):List Seg:=(l.map (xob s)).filter λg=>decide (g.from_<g.to_)
structure SimO (s:Setup) (a b:TellS):Prop where
 opn:a.open_=b.open_
 segs:b.segs=qKb s a.segs
 os:∀f os,a.open_=some (f,os)->os=[]/\0<=f.at_/\f.at_<=31449599
section
variable {s:Setup} {a b:TellS}
end
structure FlagIn (done:List Ev) (t:TellS) (G:List (Ev × Int)):Prop where
 flags:t.flags=G.map λp=>⟨p.1.id,p.2⟩
 mem:∀p∈G,p.1∈done/\(p.1.kind=1↔(p.2=1∨p.2=2))
 nodup:(G.map (·.1.id)).Nodup
 opn:∀f os,t.open_=some (f,os)->f∈done/\f.kind=1/\∀p∈G,p.1.id≠f.id
 cnt:(done.countP λe=>e.kind==1)+(G.countP λp=>p.1.kind==2)=(done.countP λe=>e.kind==2)+(G.countP λp=>p.1.kind==1)+(if t.open_.isSome then 1 else 0)
section
variable {s:Setup} {t:TellS} {done:List Ev} {G:List (Ev × Int)}
end
theorem x4a(x:Ev):∀(l:List Ev),(wW x l).Perm (x::l)
 | []=> .refl _
 | y::l=>by
   rw[jB]
   split
   ·exact((x4a x l).cons y).trans (.swap x y l)
   ·exact .refl _
theorem vr:∀(l:List Ev),(qu l).Perm l
 | []=> .refl _
 | x::l=>(x4a x (qu l)).trans ((vr l).cons x)
