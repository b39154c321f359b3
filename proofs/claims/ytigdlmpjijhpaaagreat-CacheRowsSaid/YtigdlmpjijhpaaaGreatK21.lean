import Derived.Test.YtigdlmpjijhpaaaGreatKA
import Derived.Test.YtigdlmpjijhpaaaGreatK20
set_option linter.all false
namespace Go.Proofs.YtigdlmpjijhpaaaGreat.Ax
def leS(a b:Spn):Prop:=a.from_<=b.from_
def kE(s:Spn):Spn:=⟨max s.from_ 0,min s.to_ 32054400⟩
def xu(l:List Spn):List Spn:=(l.map kE).filter λs=>decide (s.from_<s.to_)
def vq:Spn->List Spn->List Spn
 | c,[]=>[c]
 | c,s::r=>if s.from_<=c.to_ then vq ⟨c.from_,max c.to_ s.to_⟩ r else c::vq s r
def ZE:List Spn->List Spn
 | []=>[]
 | s::r=>vq s r
def K9(l:List Spn):List Spn:=l.mergeSort λa b=>decide (a.from_<=b.from_)
def qx(l:List Spn):List Spn:=ZE (K9 (xu l))
def Cov(l:List Spn)(t:Int):Prop:=∃s∈l,s.from_<=t/\t<s.to_
structure PlainS (l:List Spn):Prop where
 pos:∀s∈l,s.from_<s.to_
 gap:l.Pairwise λa b=>a.to_<b.from_
theorem jT{x:Spn}{l:List Spn}{t:Int}:Cov (x::l) t↔(x.from_<=t/\t<x.to_)∨Cov l t:=by
 simp[Cov]
theorem Q8{t:Int}:¬ Cov [] t:=λ⟨_,h,_⟩=>by cases h
theorem jPa{a b:List Spn}{t:Int}:Cov (a++b) t↔Cov a t∨Cov b t:=by
 simp only[Cov,zI]
 constructor
 ·rintro ⟨s,h|h,k⟩
  ·exact .inl ⟨s,h,k⟩
  ·exact .inr ⟨s,h,k⟩
 ·rintro (⟨s,h,k⟩|⟨s,h,k⟩)
  ·exact⟨s,.inl h,k⟩
  ·exact⟨s,.inr h,k⟩
theorem PlainS.tail{x:Spn}{l:List Spn}(h:PlainS (x::l)):PlainS l:=⟨λs k=>h.pos s (.tail _ k),(zR.1 h.gap).2⟩
theorem PlainS.above{x:Spn}{l:List Spn}(h:PlainS (x::l)){t:Int}(k:Cov l t):x.to_<t:=by
 obtain⟨s,a,b,_⟩:=k
 have:=(zR.1 h.gap).1 s a
 omega
theorem PlainS.first{x:Spn}{l:List Spn}(h:PlainS (x::l)){t:Int}(k:Cov (x::l) t):x.from_<=t:=by
 have a:=h.pos x (.head _)
 rcases jT.1 k with k|k
 ·exact k.1
 ·have:=h.above k;omega
theorem YU:∀ {a b:List Spn},PlainS a->PlainS b->(∀t,Cov a t↔Cov b t)->a=b
 | [],[],_,_,_=>rfl
 | [],y::b,_,c,h=>by
   have f:=c.pos y (.head _)
   exact absurd ((h y.from_).2 (jT.2 (.inl ⟨Int.le_refl _,f⟩))) Q8
 | x::a,[],d,_,h=>by
   have f:=d.pos x (.head _)
   exact absurd ((h x.from_).1 (jT.2 (.inl ⟨Int.le_refl _,f⟩))) Q8
 | x::a,y::b,d,c,h=>by
   have i:=d.pos x (.head _)
   have g:=c.pos y (.head _)
   have m:=c.first ((h x.from_).1 (jT.2 (.inl ⟨Int.le_refl _,i⟩)))
   have j:=d.first ((h y.from_).2 (jT.2 (.inl ⟨Int.le_refl _,g⟩)))
   have n:¬ x.to_<y.to_:=λk=>by
    have:=(h x.to_).2 (jT.2 (.inl ⟨by omega,k⟩))
    rcases jT.1 this with q|q
    ·omega
    ·have:=d.above q;omega
   have l:¬ y.to_<x.to_:=λk=>by
    have:=(h y.to_).1 (jT.2 (.inl ⟨by omega,k⟩))
    rcases jT.1 this with q|q
    ·omega
    ·have:=c.above q;omega
   have e:x=y:=by
    cases x;cases y
    simp only[Spn.mk.injEq] at*
    omega
   subst e
   refine congrArg _ (YU d.tail c.tail λt=>⟨λk=>?_,λk=>?_⟩)
   ·rcases jT.1 ((h t).1 (jT.2 (.inr k))) with q|q
    ·have:=d.above k;omega
    ·exact q
   ·rcases jT.1 ((h t).2 (jT.2 (.inr k))) with q|q
    ·have:=c.above k;omega
    ·exact q
theorem Q9:∀ {c:Spn} {r:List Spn},c.from_<c.to_->(∀s∈r,s.from_<s.to_)->r.Pairwise leS->(∀s∈r,c.from_<=s.from_)->
  PlainS (vq c r)/\(∀s∈vq c r,c.from_<=s.from_)/\∀t,Cov (vq c r) t↔Cov (c::r) t
 | c,[],j,_,_,_=>by
   have e:vq c []=[c]:=by simp[vq]
   rw[e]
   exact⟨⟨λs h=>by simp at h;subst h;exact j,by simp⟩,λs h=>by simp at h;subst h;exact Int.le_refl _,λt=>Iff.rfl⟩
 | c,s::r,j,l,n,p=>by
   have i:=l s (.head _)
   have f:∀q∈r,q.from_<q.to_:=λq h=>l q (.tail _ h)
   obtain⟨b,d⟩:=zR.1 n
   have o:=p s (.head _)
   unfold vq
   split
   ·rename_i g
    have a:=Q9 (c:=⟨c.from_,max c.to_ s.to_⟩) (r:=r) (by simp only;omega) f d (λq h=>by have:=b q h;simp only[leS] at this ⊢;omega)
    refine⟨a.1,a.2.1,λt=>(a.2.2 t).trans ?_⟩
    rw[jT,jT,jT]
    simp only
    constructor
    ·rintro (k|k)
     ·by_cases m:t<c.to_
      ·exact .inl ⟨k.1,m⟩
      ·exact .inr (.inl ⟨by omega,by omega⟩)
     ·exact .inr (.inr k)
    ·rintro (k|k|k)
     ·exact .inl ⟨k.1,by omega⟩
     ·exact .inl ⟨by omega,by omega⟩
     ·exact .inr k
   ·rename_i g
    have a:=Q9 (c:=s) (r:=r) i f d b
    refine⟨⟨λq h=>?_,zR.2 ⟨λq h=>?_,a.1.gap⟩⟩,λq h=>?_,λt=>?_⟩
    ·rcases zy.1 h with rfl|h
     ·exact j
     ·exact a.1.pos q h
    ·have:=a.2.1 q h;omega
    ·rcases zy.1 h with rfl|h
     ·exact Int.le_refl _
     ·have:=a.2.1 q h;omega
    ·rw[jT,jT,a.2.2 t]
theorem Zn{l:List Spn}(a:∀s∈l,s.from_<s.to_)(b:l.Pairwise leS):PlainS (ZE l)/\∀t,Cov (ZE l) t↔Cov l t:=by
 cases l with
 | nil=>exact⟨⟨λ_ h=>(by cases h),List.Pairwise.nil⟩,λ_=>Iff.rfl⟩
 | cons s r=>
   have:=Q9 (a s (.head _)) (λq h=>a q (.tail _ h)) (zR.1 b).2 (zR.1 b).1
   exact⟨this.1,this.2.2⟩
theorem wF(l:List Spn):(K9 l).Perm l:=List.mergeSort_perm l _
theorem Ja(l:List Spn):(K9 l).Pairwise leS:=by
 have:=List.pairwise_mergeSort (le:=λa b:Spn=>decide (a.from_<=b.from_)) (λa b c e d=>by simp at *; omega) (λa b=>by simp;omega) l
 exact this.imp λh=>by simpa [leS] using h
theorem Va{a b:List Spn}(h:a.Perm b)(t:Int):Cov a t↔Cov b t:=by
 simp only[Cov]
 exact⟨λ⟨s,k,r⟩=>⟨s,h.mem_iff.1 k,r⟩,λ⟨s,k,r⟩=>⟨s,h.mem_iff.2 k,r⟩⟩
theorem Xy{l:List Spn}:∀s∈xu l,s.from_<s.to_:=λs h=>by
 simp only[xu,zL,decide_eq_true_eq] at h
 exact h.2
theorem Z8a{l m:List Spn}(c:m.Perm (xu l))(d:m.Pairwise leS):ZE m=qx l:=by
 have p1:∀s∈m,s.from_<s.to_:=λs h=>Xy s (c.mem_iff.1 h)
 have p2:∀s∈K9 (xu l),s.from_<s.to_:=λs h=>Xy s ((wF _).mem_iff.1 h)
 have b:=Zn p1 d
 have a:=Zn p2 (Ja (xu l))
 refine YU b.1 a.1 λt=>?_
 rw[b.2,show qx l=ZE (K9 (xu l)) from rfl,a.2,Va c,Va (wF (xu l))]
theorem vh(l:List Spn):PlainS (qx l):=(Zn (λs h=>Xy s ((wF _).mem_iff.1 h)) (Ja (xu l))).1
theorem js(l:List Spn)(t:Int):Cov (qx l) t↔(0<=t/\t<32054400/\Cov l t):=by
 have d:=(Zn (λs h=>Xy s ((wF _).mem_iff.1 h)) (Ja (xu l))).2 t
 rw[show qx l=ZE (K9 (xu l)) from rfl,d,Va (wF _)]
 simp only[Cov,xu,zL,zt,decide_eq_true_eq]
 constructor
 ·rintro ⟨s,⟨⟨x,a,rfl⟩,f⟩,b,c⟩
  simp only[kE] at b c
  exact⟨by omega,by omega,x,a,by omega,by omega⟩
 ·rintro ⟨b,c,x,a,g,e⟩
  exact⟨kE x,⟨⟨x,a,rfl⟩,by simp only[kE];omega⟩,by simp only[kE];omega,by simp only[kE];omega⟩
theorem YV{a b:List Spn}(h:∀t,0<=t->t<32054400->(Cov a t↔Cov b t)):qx a=qx b:=
 YU (vh a) (vh b) λt=>by
  rw[js,js]
  constructor
  ·rintro ⟨d,c,e⟩;exact⟨d,c,(h t d c).1 e⟩
  ·rintro ⟨d,c,e⟩;exact⟨d,c,(h t d c).2 e⟩
def jQ(l:List Spn):Int:=(l.map λs=>s.to_ - s.from_).sum
theorem Jb{α:Type}{p:α->Bool}:∀ {l:List α},(∀x∈l,p x=true)->l.filter p=l
 | [],_=>rfl
 | x::l,h=>by rw[List.filter_cons,if_pos (h x (.head _)),Jb λy k=>h y (.tail _ k)]
theorem kX{l:List Spn}:∀s∈qx l,0<=s.from_/\s.from_<s.to_/\s.to_<=32054400:=λs a=>by
 have b:=(vh l).pos s a
 have d:=(js l s.from_).1 ⟨s,a,by omega,b⟩
 have c:=(js l (s.to_ - 1)).1 ⟨s,a,by omega,by omega⟩
 omega
theorem Ki:∀(c:Spn) (r:List Spn),(vq c r).length<=r.length+1
 | _,[]=>by simp[vq]
 | c,s::r=>by
   unfold vq
   split
   ·have:=Ki ⟨c.from_,max c.to_ s.to_⟩ r;simp;omega
   ·have:=Ki s r;simp;omega
theorem v9a:∀(l:List Spn),(ZE l).length<=l.length
 | []=>by simp[ZE]
 | s::r=>by simpa [ZE] using Ki s r
theorem Xz(l:List Spn):(xu l).length<=l.length:=by
 have:=qh (λs:Spn=>decide (s.from_<s.to_)) (l.map kE)
 simpa [xu] using this
theorem qm(l:List Spn):(qx l).length<=l.length:=by
 have b:=v9a (K9 (xu l))
 have a:=(wF (xu l)).length_eq
 have c:=Xz l
 unfold qx
 omega
open Go Go.Proofs
theorem Qz{lo hi x:Int}(h:Qx lo hi [x]=true):lo<=x/\x<=hi:=by
 simp[Qx,qfa] at h
 omega
theorem jU{s:Setup}(h:z6 s=true):(1<=s.unit/\s.unit<=3600)/\(60<=s.cap/\s.cap<=57600):=by
 simp only[z6,wY,zq] at h
 exact⟨Qz h.1.2.1.1.1.1.2,Qz h.1.2.1.1.1.2⟩
def rqP(t u:Int):Int:=if t % u≥u - t % u then t / u+1 else t / u
theorem J1{t u:Int}(i:1<=u)(a:u<=3600):jv t u=min (rqP (qI t 32054400) u*u) 32054400:=by
 have c0:0<=qI t 32054400:=by unfold qI;omega
 have c:qI t 32054400<=32054400:=by unfold qI;omega
 have h:=Int.emod_nonneg (qI t 32054400) (show u≠0 by omega)
 have k:=Int.emod_lt_of_pos (qI t 32054400) (show 0<u by omega)
 have j:0<=qI t 32054400 / u:=Int.ediv_nonneg c0 (by omega)
 have l:qI t 32054400 / u<=32054400:=Int.le_trans (Int.ediv_le_self _ c0) c
 have e:kD (qI t 32054400) u=(qI t 32054400 / u,qI t 32054400 % u):=by
  unfold kD
  rw[Int.tdiv_eq_ediv_of_nonneg c0,Int.tmod_eq_emod_of_nonneg c0,if_neg (by omega),qq (by unfold Fit;omega)]
 have d:K7 (qI t 32054400) u=(rqP (qI t 32054400) u,0):=by
  unfold K7
  rw[if_neg (by omega),e]
  simp only
  rw[qq (n:=u - qI t 32054400 % u) (by unfold Fit;omega)]
  unfold rqP
  split
  ·rw[qq (by unfold Fit;omega)]
  ·rfl
 have b:0<=rqP (qI t 32054400) u:=by unfold rqP;split<;>omega
 have f:rqP (qI t 32054400) u<=32054401:=by unfold rqP;split<;>omega
 have m:rqP (qI t 32054400) u*u<=32054401*3600:=Int.mul_le_mul f a (by omega) (by omega)
 have g:0<=rqP (qI t 32054400) u*u:=Int.mul_nonneg b (by omega)
 unfold jv
 rw[if_neg (by omega),d]
 simp only
 rw[show min u 64108801=u by omega,qq (by unfold Fit;omega)]
theorem VFa{a b u:Int}(e:1<=u)(h:a<=b):rqP a u<=rqP b u:=by
 have i:a / u<=b / u:=Int.ediv_le_ediv (by omega) h
 have d:=Int.emod_add_mul_ediv a u
 have g:=Int.emod_add_mul_ediv b u
 have:=Int.emod_nonneg b (show u≠0 by omega)
 have:=Int.emod_lt_of_pos a (show 0<u by omega)
 unfold rqP
 by_cases c:a / u=b / u
 ·rw[c] at d⊢
  have f:a % u<=b % u:=by omega
  split<;>split<;>omega
 ·split<;>split<;>omega
theorem Kj{a b u:Int}(c:1<=u)(d:u<=3600)(h:a<=b):jv a u<=jv b u:=by
 rw[J1 c d,J1 c d]
 have e:qI a 32054400<=qI b 32054400:=by unfold qI;omega
 have:=Int.mul_le_mul_of_nonneg_right (VFa c e) (show 0<=u by omega)
 omega
theorem jQa{a u:Int}(c:1<=u)(b:u<=3600):0<=jv a u:=by
 rw[J1 c b]
 have c0:0<=qI a 32054400:=by unfold qI;omega
 have e:0<=qI a 32054400 / u:=Int.ediv_nonneg c0 (by omega)
 have d:0<=rqP (qI a 32054400) u:=by unfold rqP;split<;>omega
 have:=Int.mul_nonneg d (show 0<=u by omega)
 omega
theorem Xka{a u:Int}(c:1<=u)(b:u<=3600):jv a u<=32054400:=by
 rw[J1 c b]
 omega
theorem waa{k:Int}(h:VJ k=true):1<=k/\k<=7:=by
 simp[VJ] at h
 omega
theorem yA{s:Setup}{e:Ev}(h:vI s e=true):jP e=true:=by
 unfold vI at h
 cases a:jP e
 ·rw[a] at h;simp at h
 ·rfl
theorem wM{e:Ev}(h:jP e=true):(1<=e.kind/\e.kind<=7)/\(0<=e.id/\e.id<=100000)/\0<=e.worker/\(0<=e.at_/\e.at_<=31449599)/\(e.kind≠4->e.code=0):=by
 simp only[jP,zq,Bool.not_not] at h
 obtain⟨f,c,a,d,b⟩:=h
 refine⟨waa f,?_,?_,?_,λg=>?_⟩
 ·simp[Q2] at c;exact c
 ·simp at a;exact a
 ·simp[Q2] at d;exact d
 ·unfold kW at b
  by_cases a:e.kind=3
  ·simp[a] at b;omega
  ·simp[a,g] at b;omega
theorem kba{s:Setup}{w:Int}{e:Ev}:ye s w e=true↔e.worker=w/\e.kind≠7/\vI s e=true:=by
 simp[ye,and_assoc]
theorem Xla{l:List Ev}(h:Srt l):l.Pairwise λa b=>a.at_<=b.at_:=by
 induction l with
 | nil=>exact .nil
 | cons x l f=>
   have h':Srt ([x]++l):=h
   obtain⟨_,d,c⟩:=xm.1 h'
   refine zR.2 ⟨λy e=>?_,f d⟩
   have:=c x (.head _) y e
   have:=(kO y x).1 this
   omega
structure RiseTo (l:List Seg) (hi:Int):Prop where
 each:∀g∈l,0<=g.from_/\g.from_<g.to_/\g.to_<=hi
 gap:l.Pairwise λa b=>a.to_<=b.from_
theorem RiseTo.mono{l:List Seg}{a b:Int}(h:RiseTo l a)(k:a<=b):RiseTo l b:=⟨λg c=>by have:=h.each g c;omega,h.gap⟩
theorem RiseTo.snoc{l:List Seg}{b:Int}{g:Seg}(h:RiseTo l b)(h0:0<=b)(e:g.from_=b)(d:g.from_<g.to_):RiseTo (l++[g]) g.to_:=by
 refine⟨λx a=>?_,qT.2 ⟨h.gap,by simp,λx a y c=>?_⟩⟩
 ·rcases zI.1 a with a|a
  ·have:=h.each x a;omega
  ·simp at a;subst a;omega
 ·simp at c;subst c
  have:=h.each x a
  omega
def Vb(e:Ev)(g:Seg):Prop:=g.id=e.id/\g.kind=JZ e.kind/\g.code=e.code
theorem Kk{t:TellS}{b c:Int}{e:Ev}:(yb t b c e).segs=if b<c then t.segs++[⟨b,c,JZ e.kind,e.id,e.code⟩] else t.segs:=by
 unfold yb
 split<;>rfl
theorem YW{t:TellS}{b c:Int}{e:Ev}(h:RiseTo t.segs b)(h0:0<=b)(a:b<=c):RiseTo (yb t b c e).segs c:=by
 rw[Kk]
 split
 ·exact h.snoc (g:=⟨b,c,JZ e.kind,e.id,e.code⟩) h0 rfl (by simp only;omega)
 ·exact h.mono a
theorem kca{t:TellS}{b c:Int}{e:Ev}{p:Ev->Prop}(h:∀g∈t.segs,∃e,p e/\Vb e g)(d:p e):∀g∈(yb t b c e).segs,∃e,p e/\Vb e g:=λg a=>by
 rw[Kk] at a
 split at a
 ·rcases zI.1 a with a|a
  ·exact h g a
  ·simp at a;subst a;exact⟨e,d,rfl,rfl,rfl⟩
 ·exact h g a
theorem YX{first last:Int}{p:Ev->Prop}(m:0<=first):∀(os:List Ev) (z:Int × Ev × TellS),first<=z.1->z.1<=max first last->RiseTo z.2.2.segs z.1->(∀g∈z.2.2.segs,∃e,p e/\Vb e g)->p z.2.1->
  os.Pairwise (λa b=>a.at_<=b.at_)->(∀x∈os,p x/\z.1<=toP first last x.at_)->
  first<=(os.foldl (wK first last) z).1/\(os.foldl (wK first last) z).1<=max first last/\RiseTo (os.foldl (wK first last) z).2.2.segs (os.foldl (wK first last) z).1/\(∀g∈(os.foldl (wK first last) z).2.2.segs,∃e,p e/\Vb e g)/\p (os.foldl (wK first last) z).2.1
 | [],z,l,j,d,c,f,_,_=>⟨l,j,d,c,f⟩
 | x::os,z,l,j,d,c,f,n,k=>by
   obtain⟨k1,k2⟩:=zR.1 n
   have h:=k x (.head _)
   rw[List.foldl_cons]
   refine YX m os (wK first last z x) ?_ ?_ ?_ ?_ h.1 k2 λy i=>⟨(k y (.tail _ i)).1,?_⟩
   ·simp only[wK,toP];omega
   ·simp only[wK,toP];omega
   ·exact YW d (by omega) h.2
   ·exact kca c f
   ·have:=k1 y i
    simp only[wK,toP]
    omega
theorem wba{first last:Int}{p:Ev->Prop}{t:TellS}{e:Ev}{os:List Ev}(i:0<=first)(j:RiseTo t.segs first)(f:∀g∈t.segs,∃e,p e/\Vb e g)(k:p e)(l:os.Pairwise λa b=>a.at_<=b.at_)(d:∀x∈os,p x):
  RiseTo (wL first last t e os).segs (max first last)/\∀g∈(wL first last t e os).segs,∃e,p e/\Vb e g:=by
 have:=YX (last:=last) i os (first,e,t) (Int.le_refl _) (by simp only;omega) j f k l λx c=>⟨d x c,by simp only[toP];omega⟩
 obtain⟨k1,k2,k3,k4,k5⟩:=this
 have h:toP first last last=max first last:=by unfold toP;omega
 unfold wL vV
 rw[h]
 exact⟨YW k3 (by omega) k2,kca k4 k5⟩
structure InvR (s:Setup) (p:Ev->Prop) (t:TellS) (m:Int):Prop where
 rise:RiseTo t.segs (jv (match t.open_ with|none=>m|some (f,_)=>f.at_) s.unit)
 of:∀g∈t.segs,∃e,p e/\Vb e g
 opn:∀f os,t.open_=some (f,os)->p f/\f.at_<=m/\os.Pairwise (λa b=>a.at_<=b.at_)/\∀x∈os,p x/\x.at_<=m
section
variable {s:Setup} {p:Ev->Prop} {t:TellS} {m:Int}
theorem InvR.none(h:InvR s p t m)(a:t.open_=none):RiseTo t.segs (jv m s.unit):=by
 have:=h.rise;rw[a] at this;exact this
theorem InvR.some{f:Ev}{os:List Ev}(h:InvR s p t m)(a:t.open_=some (f,os)):RiseTo t.segs (jv f.at_ s.unit):=by
 have:=h.rise;rw[a] at this;exact this
theorem Kl(j:z6 s=true){f:Ev}{os:List Ev}(h:InvR s p t m)(d:t.open_=some (f,os)){c:Int}(k:f.at_<=c):
  RiseTo (vH s t f os c).segs (jv c s.unit)/\∀g∈(vH s t f os c).segs,∃e,p e/\Vb e g:=by
 obtain⟨⟨b,a⟩,_⟩:=jU j
 obtain⟨k1,k2,k3,k4⟩:=h.opn f os d
 have:=wba (last:=jv c s.unit) (jQa b a) (h.some d) h.of k1 k3 λx i=>(k4 x i).1
 have l:=Kj b a k
 rw[show max (jv f.at_ s.unit) (jv c s.unit)=jv c s.unit by omega] at this
 exact this
theorem VN{e:Ev}{k:Int}(h:InvR s p t m):InvR s p (xJ t e k) m:=⟨h.rise,h.of,h.opn⟩
theorem qJa(j:z6 s=true)(o:∀e,p e->0<=e.at_/\e.at_<=31449599)(h:InvR s p t m){a:Int}(n:m<=a):InvR s p (lateP s t a) a:=by
 obtain⟨⟨l,k⟩,w,u⟩:=jU j
 unfold lateP
 cases b:t.open_ with
 | none=>
   simp only
   refine⟨?_,h.of,λf os q=>by rw[b] at q;cases q⟩
   rw[b]
   exact(h.none b).mono (Kj l k n)
 | some q=>
   obtain⟨f,os⟩:=q
   obtain⟨k1,k2,k3,k4⟩:=h.opn f os b
   have v:=o f k1
   simp only
   split
   ·rename_i g
    rw[qq (by unfold Fit;omega)] at g⊢
    have:=Kl (t:=xJ t f 1) j (VN h) b (c:=f.at_+s.cap) (by omega)
    refine⟨?_,this.2,λ_ _ q=>by cases q⟩
    exact this.1.mono (Kj l k (show f.at_+s.cap<=a by omega))
   ·refine⟨?_,h.of,λr d q=>?_⟩
    ·rw[b];exact h.some b
    ·obtain⟨k1,k2,k3,k4⟩:=h.opn r d q
     exact⟨k1,by omega,k3,λx i=>⟨(k4 x i).1,by have:=(k4 x i).2;omega⟩⟩
theorem Z9a(k:z6 s=true)(y:∀e,p e->0<=e.at_/\e.at_<=31449599)(h:InvR s p t m){e:Ev}(n:e.kind≠2->p e)(r:m<=e.at_):InvR s p (ko s t e) e.at_:=by
 have g:=qJa k y h r
 unfold ko
 by_cases o:e.kind=1
 ·rw[if_pos o]
  have j:=n (by omega)
  cases i:(lateP s t e.at_).open_ with
  | none=>
    simp only
    refine⟨g.none i,g.of,λf os q=>?_⟩
    injection q with q;injection q with q1 q2;subst q1;subst q2
    exact⟨j,Int.le_refl _,.nil,λ_ d=>by cases d⟩
  | some q=>
    obtain⟨f,os⟩:=q
    simp only
    have:=Kl (t:=xJ (lateP s t e.at_) f 2) k (VN g) i (c:=e.at_) (g.opn f os i).2.1
    refine⟨this.1,this.2,λf os q=>?_⟩
    injection q with q;injection q with q1 q2;subst q1;subst q2
    exact⟨j,Int.le_refl _,.nil,λ_ d=>by cases d⟩
 ·rw[if_neg o]
  cases i:(lateP s t e.at_).open_ with
  | none=>exact VN g
  | some q=>
    obtain⟨f,os⟩:=q
    simp only
    split
    ·have:=Kl k g i (c:=e.at_) (g.opn f os i).2.1
     exact⟨this.1,this.2,λ_ _ q=>by cases q⟩
    ·rename_i v
     obtain⟨k1,k2,k3,k4⟩:=g.opn f os i
     refine⟨g.some i,g.of,λz u q=>?_⟩
     injection q with q;injection q with q1 q2;subst q1;subst q2
     refine⟨k1,k2,qT.2 ⟨k3,by simp,λa w b l=>?_⟩,λx d=>?_⟩
     ·simp at l;subst l;exact(k4 a w).2
     ·rcases zI.1 d with d|d
      ·exact k4 x d
      ·simp at d;subst d;exact⟨n v,Int.le_refl _⟩
theorem YY(j:z6 s=true)(n:∀e,p e->0<=e.at_/\e.at_<=31449599){w:Int}:∀(l:List Ev) (t:TellS) (m:Int),InvR s p t m->l.Pairwise (λa b=>a.at_<=b.at_)->(∀e∈l,ye s w e=true->(e.kind≠2->p e)/\m<=e.at_/\e.at_<=31449599)->m<=31449599->∃q,q<=31449599/\InvR s p (l.foldl (vW s w) t) q
 | [],t,m,h,_,_,i=>⟨m,i,h⟩
 | e::l,t,m,h,o,g,i=>by
   obtain⟨k1,k2⟩:=zR.1 o
   rw[List.foldl_cons]
   unfold vW
   split
   ·rename_i d
    have k:=g e (.head _) d
    exact YY j n l _ e.at_ (Z9a j n h k.1 k.2.1) k2 (λx c f=>⟨(g x (.tail _ c) f).1,k1 x c,(g x (.tail _ c) f).2.2⟩) k.2.2
   ·exact YY j n l t m h k2 (λx c=>g x (.tail _ c)) i
end
theorem yU{s:Setup}{l:List Ev}{w:Int}(c:z6 s=true):
  RiseTo (qA s l w).1 32054400/\∀g∈(qA s l w).1,∃e,(e∈l/\ye s w e=true/\e.kind≠2)/\Vb e g:=by
 obtain⟨⟨n,j⟩,_⟩:=jU c
 have i:∀e,(e∈l/\ye s w e=true/\e.kind≠2)->0<=e.at_/\e.at_<=31449599:=λe d=>(wM (yA (kba.1 d.2.1).2.2)).2.2.2.1
 obtain⟨m,o,hi⟩:=YY (s:=s) (w:=w) (p:=λe=>e∈l/\ye s w e=true/\e.kind≠2) c i (qu l) ⟨none,[],[]⟩ 0 ⟨⟨λ_ h=>(by cases h),.nil⟩,λ_ h=>(by cases h),λ_ _ h=>(by cases h)⟩ (Xla (xY l)) (λe d b=>by
  have:=(wM (yA (kba.1 b).2.2)).2.2.2.1
  exact⟨λk=>⟨Xw.1 d,b,k⟩,by omega,by omega⟩) (by omega)
 have f:=qJa c i hi (a:=32054400) (by omega)
 unfold qA
 rw[if_pos c]
 refine⟨f.rise.mono ?_,f.of⟩
 exact Xka n j
def spS(g:Seg):Spn:=⟨g.from_,g.to_⟩
def jdb(t:TellS)(x:Int):Prop:=Cov (t.segs.map spS) x
def opF(t:TellS):Option Ev:=t.open_.map (·.1)
structure EqT (a b:TellS):Prop where
 opn:opF a=opF b
 cov:∀x,jdb a x↔jdb b x
section
variable {s:Setup} {a b:TellS}
theorem XA{t:TellS}{m a:Int}(h:m<=a):lateP s (lateP s t m) a=lateP s t a:=by
 cases b:t.open_ with
 | none=>
   have:∀k,lateP s t k=t:=λk=>by unfold lateP;rw[b]
   rw[this,this]
 | some q=>
   obtain⟨f,os⟩:=q
   by_cases c:m>wr (f.at_+s.cap)
   ·have:∀k,k>wr (f.at_+s.cap)->lateP s t k=vH s (xJ t f 1) f os (wr (f.at_+s.cap)):=λk d=>by unfold lateP;rw[b];simp only;rw[if_pos d]
    rw[this m c,this a (by omega)]
    rfl
   ·have:lateP s t m=t:=by unfold lateP;rw[b];simp only;rw[if_neg c]
    rw[this]
theorem VO{t:TellS}{m:Int}{f:Ev}{os:List Ev}(h:(lateP s t m).open_=some (f,os)):lateP s t m=t/\t.open_=some (f,os)/\m<=wr (f.at_+s.cap):=by
 cases a:t.open_ with
 | none=>
   have:lateP s t m=t:=by unfold lateP;rw[a]
   rw[this,a] at h;cases h
 | some q=>
   obtain⟨g,b⟩:=q
   by_cases c:m>wr (g.at_+s.cap)
   ·have:lateP s t m=vH s (xJ t g 1) g b (wr (g.at_+s.cap)):=by unfold lateP;rw[a];simp only;rw[if_pos c]
    rw[this] at h;cases h
   ·have:lateP s t m=t:=by unfold lateP;rw[a];simp only;rw[if_neg c]
    rw[this,a] at h
    injection h with h;injection h with h1 h2;subst h1;subst h2
    exact⟨this,rfl,by omega⟩
structure Sim (s:Setup) (p:Ev->Prop) (a b:TellS) (m:Int):Prop where
 ia:InvR s p a m
 ib:InvR s p b m
 eq:EqT (lateP s a m) (lateP s b m)
end
theorem J2{p:Ev->Bool}(x:Ev):∀ {l:List Ev},Srt l->(vF x l).filter p=if p x then vF x (l.filter p) else l.filter p
 | [],_=>by
   simp only[vF,List.filter_cons,List.filter_nil]
 | y::l,h=>by
   have h':Srt ([y]++l):=h
   have d:=(xm.1 h').2.1
   rw[jA]
   cases a:ltE y x
   ·simp only[Bool.false_eq_true,if_false]
    rw[List.filter_cons]
    cases f:p x
    ·simp
    ·simp only[if_true]
     have b:=x6a h a
     have:∀q:List Ev,(∀z∈q,ltE z x=false)->vF x q=x::q:=λq c=>by
      cases q with
      | nil=>rfl
      | cons z q=>rw[jA,c z (.head _)];rfl
     rw[this _ λz e=>b z (zL.1 e).1]
   ·simp only[if_true]
    rw[List.filter_cons,J2 x d]
    rw[List.filter_cons]
    cases f:p x<;>cases g:p y<;>simp[jA,a]
theorem wi(p:Ev->Bool):∀(l:List Ev),qu (l.filter p)=(qu l).filter p
 | []=>rfl
 | x::l=>by
   rw[List.filter_cons,show qu (x::l)=vF x (qu l) from rfl,J2 x (xY l), <-wi p l]
   split
   ·rfl
   ·rfl
theorem YZ{t u:Int}(b:1<=u)(a:u<=3600)(f:0<=t)(d:t<=32054400):2*jv t u<=2*t+u/\(2*t - u<=2*jv t u):=by
 rw[J1 b a,show qI t 32054400=t by unfold qI;omega]
 have e:=Int.emod_add_mul_ediv t u
 have c:=Int.emod_nonneg t (show u≠0 by omega)
 have g:=Int.emod_lt_of_pos t (show 0<u by omega)
 rw[Int.mul_comm] at e
 unfold rqP
 split
 ·rw[Int.add_mul];omega
 ·omega
structure InvB (s:Setup) (t:TellS):Prop where
 seg:∀g∈t.segs,g.kind=0/\g.to_ - g.from_<=s.cap+s.unit
 opn:∀f os,t.open_=some (f,os)->os=[]/\f.kind=1/\0<=f.at_/\f.at_<=31449599
section
variable {s:Setup} {t:TellS}
end
theorem qKa{x y:Ev}(h:x.id≠y.id):ltE x y= !ltE y x:=by
 cases b:ltE x y<;>cases a:ltE y x<;>try rfl
 ·have:=(kO x y).1 b
  have:=(kO y x).1 a
  omega
 ·have:=(wB x y).1 b
  have:=(wB y x).1 a
  omega
theorem qLa{x y:Ev}(h:x.id≠y.id):∀(l:List Ev),vF x (vF y l)=vF y (vF x l)
 | []=>by
   have:=qKa h
   show vF x [y]=vF y [x]
   rw[jA,jA,this]
   cases ltE y x<;>rfl
 | z::l=>by
   have c:=qKa h
   rw[jA,jA]
   cases b:ltE z x<;>cases a:ltE z y<;>simp only[Bool.false_eq_true,if_false,if_true]<;>simp only[jA,b,a,Bool.false_eq_true,if_false,if_true,c]
   ·cases ltE y x<;>simp
   ·have e:ltE y x=false:=by
     refine(kO y x).2 λq=>?_
     have:=(kO z x).1 b
     have:=(wB z y).1 a
     omega
    simp[e]
   ·have e:ltE y x=true:=by
     refine(wB y x).2 ?_
     have:=(wB z x).1 b
     have:=(kO z y).1 a
     omega
    simp[e]
   ·rw[qLa h l]
theorem wca{a b:List Ev}(h:a.Perm b):(a.map (·.id)).Nodup->qu a=qu b:=by
 induction h with
 | nil=>intro _;rfl
 | cons x _ f=>
   intro c
   show vF x _=vF x _
   rw[f (List.nodup_cons.1 c).2]
 | swap x y l=>
   intro c
   show vF y (vF x _)=vF x (vF y _)
   refine qLa ?_ _
   simp only[List.map_cons,List.nodup_cons,zy,not_or] at c
   exact c.1.1
 | trans g _ d e=>
   intro c
   rw[d c,e ((g.map (·.id)).nodup_iff.1 c)]
theorem Y0{s:Setup}{w:Int}:∀(l:List Ev) (t:TellS),l.foldl (vW s w) t=(l.filter (ye s w)).foldl (ko s) t
 | [],t=>rfl
 | e::l,t=>by
   rw[List.foldl_cons,List.filter_cons]
   cases h:ye s w e
   ·have a:vW s w t e=t:=by simp[vW,h]
    rw[a,Y0 l]
    rfl
   ·have a:vW s w t e=ko s t e:=by simp[vW,h]
    rw[a,Y0 l]
    rfl
theorem jRa{s:Setup}{w:Int}{l:List Ev}:goP s w (qu l)=(qu (l.filter (ye s w))).foldl (ko s) ⟨none,[],[]⟩:=by
 rw[goP,Y0, <-wi]
def xSb(s:Setup)(g:Seg):Seg:=⟨jv g.from_ s.unit,jv g.to_ s.unit,g.kind,g.id,g.code⟩
def jeb(s:Setup)(l:List Seg):List Seg:=(l.map (xSb s)).filter λg=>decide (g.from_<g.to_)
structure SimO (s:Setup) (a b:TellS):Prop where
 opn:a.open_=b.open_
 segs:b.segs=jeb s a.segs
 os:∀f os,a.open_=some (f,os)->os=[]/\0<=f.at_/\f.at_<=31449599
section
variable {s:Setup} {a b:TellS}
end
structure FlagIn (done:List Ev) (t:TellS) (G:List (Ev × Int)):Prop where
 flags:t.flags=G.map λp=>⟨p.1.id,p.2⟩
 mem:∀p∈G,p.1∈done/\(p.1.kind=1↔(p.2=1∨p.2=2))
 nodup:(G.map (·.1.id)).Nodup
 opn:∀f os,t.open_=some (f,os)->f∈done/\f.kind=1/\∀p∈G,p.1.id≠f.id
 cnt:(done.countP λe=>e.kind==1)+(G.countP λp=>p.1.kind==2)=(done.countP λe=>e.kind==2)+(G.countP λp=>p.1.kind==1)+(if t.open_.isSome then 1 else 0)
section
variable {s:Setup} {t:TellS} {done:List Ev} {G:List (Ev × Int)}
end
theorem Y4(x:Ev):∀(l:List Ev),(vF x l).Perm (x::l)
 | []=> .refl _
 | y::l=>by
   rw[jA]
   split
   ·exact((Y4 x l).cons y).trans (.swap x y l)
   ·exact .refl _
theorem xK:∀(l:List Ev),(qu l).Perm l
 | []=> .refl _
 | x::l=>(Y4 x (qu l)).trans ((xK l).cons x)
