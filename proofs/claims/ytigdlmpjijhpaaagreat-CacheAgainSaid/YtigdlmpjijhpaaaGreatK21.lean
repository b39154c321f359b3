import Derived.Test.YtigdlmpjijhpaaaGreatKA
import Derived.Test.YtigdlmpjijhpaaaGreatK20
set_option linter.all false
namespace Go.Proofs.YtigdlmpjijhpaaaGreat.Ax
def leS(a b:Spn):Prop:=a.from_<=b.from_
def kJ(s:Spn):Spn:=⟨max s.from_ 0,min s.to_ 32054400⟩
def xw(l:List Spn):List Spn:=(l.map kJ).filter λs=>decide (s.from_<s.to_)
def vr:Spn->List Spn->List Spn
 | c,[]=>[c]
 | c,s::r=>if s.from_<=c.to_ then vr ⟨c.from_,max c.to_ s.to_⟩ r else c::vr s r
def ZH:List Spn->List Spn
 | []=>[]
 | s::r=>vr s r
def Va(l:List Spn):List Spn:=l.mergeSort λa b=>decide (a.from_<=b.from_)
def qz(l:List Spn):List Spn:=ZH (Va (xw l))
def Cov(l:List Spn)(t:Int):Prop:=∃s∈l,s.from_<=t/\t<s.to_
structure PlainS (l:List Spn):Prop where
 pos:∀s∈l,s.from_<s.to_
 gap:l.Pairwise λa b=>a.to_<b.from_
theorem jT{x:Spn}{l:List Spn}{t:Int}:Cov (x::l) t↔(x.from_<=t/\t<x.to_)∨Cov l t:=by
 simp[Cov]
theorem Ja{t:Int}:¬ Cov [] t:=λ⟨_,h,_⟩=>by cases h
theorem jTa{a b:List Spn}{t:Int}:Cov (a++b) t↔Cov a t∨Cov b t:=by
 simp only[Cov,zK]
 constructor
 ·rintro ⟨s,h|h,k⟩
  ·exact .inl ⟨s,h,k⟩
  ·exact .inr ⟨s,h,k⟩
 ·rintro (⟨s,h,k⟩|⟨s,h,k⟩)
  ·exact⟨s,.inl h,k⟩
  ·exact⟨s,.inr h,k⟩
theorem PlainS.tail{x:Spn}{l:List Spn}(h:PlainS (x::l)):PlainS l:=⟨λs k=>h.pos s (.tail _ k),(zR.1 h.gap).2⟩
theorem PlainS.above{x:Spn}{l:List Spn}(h:PlainS (x::l)){t:Int}(k:Cov l t):x.to_<t:=by
 obtain⟨s,a,b,_⟩:=k
 have:=(zR.1 h.gap).1 s a
 omega
theorem PlainS.first{x:Spn}{l:List Spn}(h:PlainS (x::l)){t:Int}(k:Cov (x::l) t):x.from_<=t:=by
 have a:=h.pos x (.head _)
 rcases jT.1 k with k|k
 ·exact k.1
 ·have:=h.above k;omega
theorem YW:∀ {a b:List Spn},PlainS a->PlainS b->(∀t,Cov a t↔Cov b t)->a=b
 | [],[],_,_,_=>rfl
 | [],y::b,_,c,h=>by
   have e:=c.pos y (.head _)
   exact absurd ((h y.from_).2 (jT.2 (.inl ⟨Int.le_refl _,e⟩))) Ja
 | x::a,[],d,_,h=>by
   have e:=d.pos x (.head _)
   exact absurd ((h x.from_).1 (jT.2 (.inl ⟨Int.le_refl _,e⟩))) Ja
 | x::a,y::b,d,c,h=>by
   have i:=d.pos x (.head _)
   have g:=c.pos y (.head _)
   have m:=c.first ((h x.from_).1 (jT.2 (.inl ⟨Int.le_refl _,i⟩)))
   have j:=d.first ((h y.from_).2 (jT.2 (.inl ⟨Int.le_refl _,g⟩)))
   have n:¬ x.to_<y.to_:=λk=>by
    have:=(h x.to_).2 (jT.2 (.inl ⟨by omega,k⟩))
    rcases jT.1 this with q|q
    ·omega
    ·have:=d.above q;omega
   have l:¬ y.to_<x.to_:=λk=>by
    have:=(h y.to_).1 (jT.2 (.inl ⟨by omega,k⟩))
    rcases jT.1 this with q|q
    ·omega
    ·have:=c.above q;omega
   have f:x=y:=by
    cases x;cases y
    simp only[Spn.mk.injEq] at*
    omega
   subst f
   refine congrArg _ (YW d.tail c.tail λt=>⟨λk=>?_,λk=>?_⟩)
   ·rcases jT.1 ((h t).1 (jT.2 (.inr k))) with q|q
    ·have:=d.above k;omega
    ·exact q
   ·rcases jT.1 ((h t).2 (jT.2 (.inr k))) with q|q
    ·have:=c.above k;omega
    ·exact q
theorem Jb:∀ {c:Spn} {r:List Spn},c.from_<c.to_->(∀s∈r,s.from_<s.to_)->r.Pairwise leS->(∀s∈r,c.from_<=s.from_)->
  PlainS (vr c r)/\(∀s∈vr c r,c.from_<=s.from_)/\∀t,Cov (vr c r) t↔Cov (c::r) t
 | c,[],i,_,_,_=>by
   have e:vr c []=[c]:=by simp[vr]
   rw[e]
   exact⟨⟨λs h=>by simp at h;subst h;exact i,by simp⟩,λs h=>by simp at h;subst h;exact Int.le_refl _,λt=>Iff.rfl⟩
 | c,s::r,i,l,m,o=>by
   have j:=l s (.head _)
   have b:∀q∈r,q.from_<q.to_:=λq h=>l q (.tail _ h)
   obtain⟨d,f⟩:=zR.1 m
   have n:=o s (.head _)
   unfold vr
   split
   ·rename_i g
    have a:=Jb (c:=⟨c.from_,max c.to_ s.to_⟩) (r:=r) (by simp only;omega) b f (λq h=>by have:=d q h;simp only[leS] at this ⊢;omega)
    refine⟨a.1,a.2.1,λt=>(a.2.2 t).trans ?_⟩
    rw[jT,jT,jT]
    simp only
    constructor
    ·rintro (k|k)
     ·by_cases p:t<c.to_
      ·exact .inl ⟨k.1,p⟩
      ·exact .inr (.inl ⟨by omega,by omega⟩)
     ·exact .inr (.inr k)
    ·rintro (k|k|k)
     ·exact .inl ⟨k.1,by omega⟩
     ·exact .inl ⟨by omega,by omega⟩
     ·exact .inr k
   ·rename_i g
    have a:=Jb (c:=s) (r:=r) j b f d
    refine⟨⟨λq h=>?_,zR.2 ⟨λq h=>?_,a.1.gap⟩⟩,λq h=>?_,λt=>?_⟩
    ·rcases zx.1 h with rfl|h
     ·exact i
     ·exact a.1.pos q h
    ·have:=a.2.1 q h;omega
    ·rcases zx.1 h with rfl|h
     ·exact Int.le_refl _
     ·have:=a.2.1 q h;omega
    ·rw[jT,jT,a.2.2 t]
theorem Zr{l:List Spn}(b:∀s∈l,s.from_<s.to_)(a:l.Pairwise leS):PlainS (ZH l)/\∀t,Cov (ZH l) t↔Cov l t:=by
 cases l with
 | nil=>exact⟨⟨λ_ h=>(by cases h),List.Pairwise.nil⟩,λ_=>Iff.rfl⟩
 | cons s r=>
   have:=Jb (b s (.head _)) (λq h=>b q (.tail _ h)) (zR.1 a).2 (zR.1 a).1
   exact⟨this.1,this.2.2⟩
theorem wG(l:List Spn):(Va l).Perm l:=List.mergeSort_perm l _
theorem Jc(l:List Spn):(Va l).Pairwise leS:=by
 have:=List.pairwise_mergeSort (le:=λa b:Spn=>decide (a.from_<=b.from_)) (λa b c d e=>by simp at *; omega) (λa b=>by simp;omega) l
 exact this.imp λh=>by simpa [leS] using h
theorem Vb{a b:List Spn}(h:a.Perm b)(t:Int):Cov a t↔Cov b t:=by
 simp only[Cov]
 exact⟨λ⟨s,k,r⟩=>⟨s,h.mem_iff.1 k,r⟩,λ⟨s,k,r⟩=>⟨s,h.mem_iff.2 k,r⟩⟩
theorem XB{l:List Spn}:∀s∈xw l,s.from_<s.to_:=λs h=>by
 simp only[xw,zT,decide_eq_true_eq] at h
 exact h.2
theorem Qfa{l m:List Spn}(a:m.Perm (xw l))(d:m.Pairwise leS):ZH m=qz l:=by
 have p1:∀s∈m,s.from_<s.to_:=λs h=>XB s (a.mem_iff.1 h)
 have p2:∀s∈Va (xw l),s.from_<s.to_:=λs h=>XB s ((wG _).mem_iff.1 h)
 have b:=Zr p1 d
 have c:=Zr p2 (Jc (xw l))
 refine YW b.1 c.1 λt=>?_
 rw[b.2,show qz l=ZH (Va (xw l)) from rfl,c.2,Vb a,Vb (wG (xw l))]
theorem vi(l:List Spn):PlainS (qz l):=(Zr (λs h=>XB s ((wG _).mem_iff.1 h)) (Jc (xw l))).1
theorem ju(l:List Spn)(t:Int):Cov (qz l) t↔(0<=t/\t<32054400/\Cov l t):=by
 have d:=(Zr (λs h=>XB s ((wG _).mem_iff.1 h)) (Jc (xw l))).2 t
 rw[show qz l=ZH (Va (xw l)) from rfl,d,Vb (wG _)]
 simp only[Cov,xw,zT,zr,decide_eq_true_eq]
 constructor
 ·rintro ⟨s,⟨⟨x,a,rfl⟩,f⟩,b,c⟩
  simp only[kJ] at b c
  exact⟨by omega,by omega,x,a,by omega,by omega⟩
 ·rintro ⟨b,c,x,a,g,e⟩
  exact⟨kJ x,⟨⟨x,a,rfl⟩,by simp only[kJ];omega⟩,by simp only[kJ];omega,by simp only[kJ];omega⟩
theorem YX{a b:List Spn}(h:∀t,0<=t->t<32054400->(Cov a t↔Cov b t)):qz a=qz b:=
 YW (vi a) (vi b) λt=>by
  rw[ju,ju]
  constructor
  ·rintro ⟨d,c,e⟩;exact⟨d,c,(h t d c).1 e⟩
  ·rintro ⟨d,c,e⟩;exact⟨d,c,(h t d c).2 e⟩
def jR(l:List Spn):Int:=(l.map λs=>s.to_ - s.from_).sum
theorem Jd{α:Type}{p:α->Bool}:∀ {l:List α},(∀x∈l,p x=true)->l.filter p=l
 | [],_=>rfl
 | x::l,h=>by rw[List.filter_cons,if_pos (h x (.head _)),Jd λy k=>h y (.tail _ k)]
theorem va{l:List Spn}:∀s∈qz l,0<=s.from_/\s.from_<s.to_/\s.to_<=32054400:=λs a=>by
 have b:=(vi l).pos s a
 have c:=(ju l s.from_).1 ⟨s,a,by omega,b⟩
 have d:=(ju l (s.to_ - 1)).1 ⟨s,a,by omega,by omega⟩
 omega
theorem Ki:∀(c:Spn) (r:List Spn),(vr c r).length<=r.length+1
 | _,[]=>by simp[vr]
 | c,s::r=>by
   unfold vr
   split
   ·have:=Ki ⟨c.from_,max c.to_ s.to_⟩ r;simp;omega
   ·have:=Ki s r;simp;omega
theorem wfa:∀(l:List Spn),(ZH l).length<=l.length
 | []=>by simp[ZH]
 | s::r=>by simpa [ZH] using Ki s r
theorem XC(l:List Spn):(xw l).length<=l.length:=by
 have:=qw (λs:Spn=>decide (s.from_<s.to_)) (l.map kJ)
 simpa [xw] using this
theorem qj(l:List Spn):(qz l).length<=l.length:=by
 have b:=wfa (Va (xw l))
 have a:=(wG (xw l)).length_eq
 have c:=XC l
 unfold qz
 omega
open Go Go.Proofs
theorem QC{lo hi x:Int}(h:QA lo hi [x]=true):lo<=x/\x<=hi:=by
 simp[QA,qia] at h
 omega
theorem jU{s:Setup}(h:z6 s=true):(1<=s.unit/\s.unit<=3600)/\(60<=s.cap/\s.cap<=57600):=by
 simp only[z6,wZ,zq] at h
 exact⟨QC h.1.2.1.1.1.1.2,QC h.1.2.1.1.1.2⟩
def rqP(t u:Int):Int:=if t % u≥u - t % u then t / u+1 else t / u
theorem J3{t u:Int}(j:1<=u)(e:u<=3600):jw t u=min (rqP (qI t 32054400) u*u) 32054400:=by
 have c0:0<=qI t 32054400:=by unfold qI;omega
 have d:qI t 32054400<=32054400:=by unfold qI;omega
 have i:=Int.emod_nonneg (qI t 32054400) (show u≠0 by omega)
 have l:=Int.emod_lt_of_pos (qI t 32054400) (show 0<u by omega)
 have m:0<=qI t 32054400 / u:=Int.ediv_nonneg c0 (by omega)
 have g:qI t 32054400 / u<=32054400:=Int.le_trans (Int.ediv_le_self _ c0) d
 have b:kI (qI t 32054400) u=(qI t 32054400 / u,qI t 32054400 % u):=by
  unfold kI
  rw[Int.tdiv_eq_ediv_of_nonneg c0,Int.tmod_eq_emod_of_nonneg c0,if_neg (by omega),qp (by unfold Fit;omega)]
 have a:K8 (qI t 32054400) u=(rqP (qI t 32054400) u,0):=by
  unfold K8
  rw[if_neg (by omega),b]
  simp only
  rw[qp (n:=u - qI t 32054400 % u) (by unfold Fit;omega)]
  unfold rqP
  split
  ·rw[qp (by unfold Fit;omega)]
  ·rfl
 have c:0<=rqP (qI t 32054400) u:=by unfold rqP;split<;>omega
 have f:rqP (qI t 32054400) u<=32054401:=by unfold rqP;split<;>omega
 have h:rqP (qI t 32054400) u*u<=32054401*3600:=Int.mul_le_mul f e (by omega) (by omega)
 have k:0<=rqP (qI t 32054400) u*u:=Int.mul_nonneg c (by omega)
 unfold jw
 rw[if_neg (by omega),a]
 simp only
 rw[show min u 64108801=u by omega,qp (by unfold Fit;omega)]
theorem VSa{a b u:Int}(g:1<=u)(h:a<=b):rqP a u<=rqP b u:=by
 have i:a / u<=b / u:=Int.ediv_le_ediv (by omega) h
 have c:=Int.emod_add_mul_ediv a u
 have e:=Int.emod_add_mul_ediv b u
 have:=Int.emod_nonneg b (show u≠0 by omega)
 have:=Int.emod_lt_of_pos a (show 0<u by omega)
 unfold rqP
 by_cases d:a / u=b / u
 ·rw[d] at c⊢
  have f:a % u<=b % u:=by omega
  split<;>split<;>omega
 ·split<;>split<;>omega
theorem Kj{a b u:Int}(c:1<=u)(d:u<=3600)(h:a<=b):jw a u<=jw b u:=by
 rw[J3 c d,J3 c d]
 have e:qI a 32054400<=qI b 32054400:=by unfold qI;omega
 have:=Int.mul_le_mul_of_nonneg_right (VSa c e) (show 0<=u by omega)
 omega
theorem jUa{a u:Int}(c:1<=u)(d:u<=3600):0<=jw a u:=by
 rw[J3 c d]
 have c0:0<=qI a 32054400:=by unfold qI;omega
 have e:0<=qI a 32054400 / u:=Int.ediv_nonneg c0 (by omega)
 have b:0<=rqP (qI a 32054400) u:=by unfold rqP;split<;>omega
 have:=Int.mul_nonneg b (show 0<=u by omega)
 omega
theorem Xua{a u:Int}(b:1<=u)(c:u<=3600):jw a u<=32054400:=by
 rw[J3 b c]
 omega
theorem wga{k:Int}(h:VL k=true):1<=k/\k<=7:=by
 simp[VL] at h
 omega
theorem yC{s:Setup}{e:Ev}(h:vK s e=true):jQ e=true:=by
 unfold vK at h
 cases a:jQ e
 ·rw[a] at h;simp at h
 ·rfl
theorem wO{e:Ev}(h:jQ e=true):(1<=e.kind/\e.kind<=7)/\(0<=e.id/\e.id<=100000)/\0<=e.worker/\(0<=e.at_/\e.at_<=31449599)/\(e.kind≠4->e.code=0):=by
 simp only[jQ,zq,Bool.not_not] at h
 obtain⟨g,d,a,c,b⟩:=h
 refine⟨wga g,?_,?_,?_,λf=>?_⟩
 ·simp[Q4] at d;exact d
 ·simp at a;exact a
 ·simp[Q4] at c;exact c
 ·unfold kZ at b
  by_cases a:e.kind=3
  ·simp[a] at b;omega
  ·simp[a,f] at b;omega
theorem kea{s:Setup}{w:Int}{e:Ev}:yf s w e=true↔e.worker=w/\e.kind≠7/\vK s e=true:=by
 simp[yf,and_assoc]
theorem Xva{l:List Ev}(h:Srt l):l.Pairwise λa b=>a.at_<=b.at_:=by
 induction l with
 | nil=>exact .nil
 | cons x l e=>
   have h':Srt ([x]++l):=h
   obtain⟨_,d,f⟩:=xn.1 h'
   refine zR.2 ⟨λy c=>?_,e d⟩
   have:=f x (.head _) y c
   have:=(kR y x).1 this
   omega
structure RiseTo (l:List Seg) (hi:Int):Prop where
 each:∀g∈l,0<=g.from_/\g.from_<g.to_/\g.to_<=hi
 gap:l.Pairwise λa b=>a.to_<=b.from_
theorem RiseTo.mono{l:List Seg}{a b:Int}(h:RiseTo l a)(k:a<=b):RiseTo l b:=⟨λg c=>by have:=h.each g c;omega,h.gap⟩
theorem RiseTo.snoc{l:List Seg}{b:Int}{g:Seg}(h:RiseTo l b)(h0:0<=b)(d:g.from_=b)(e:g.from_<g.to_):RiseTo (l++[g]) g.to_:=by
 refine⟨λx a=>?_,qT.2 ⟨h.gap,by simp,λx a y c=>?_⟩⟩
 ·rcases zK.1 a with a|a
  ·have:=h.each x a;omega
  ·simp at a;subst a;omega
 ·simp at c;subst c
  have:=h.each x a
  omega
def Vc(e:Ev)(g:Seg):Prop:=g.id=e.id/\g.kind=J1 e.kind/\g.code=e.code
theorem Kk{t:TellS}{b c:Int}{e:Ev}:(ye t b c e).segs=if b<c then t.segs++[⟨b,c,J1 e.kind,e.id,e.code⟩] else t.segs:=by
 unfold ye
 split<;>rfl
theorem YY{t:TellS}{b c:Int}{e:Ev}(h:RiseTo t.segs b)(h0:0<=b)(a:b<=c):RiseTo (ye t b c e).segs c:=by
 rw[Kk]
 split
 ·exact h.snoc (g:=⟨b,c,J1 e.kind,e.id,e.code⟩) h0 rfl (by simp only;omega)
 ·exact h.mono a
theorem kfa{t:TellS}{b c:Int}{e:Ev}{p:Ev->Prop}(h:∀g∈t.segs,∃e,p e/\Vc e g)(d:p e):∀g∈(ye t b c e).segs,∃e,p e/\Vc e g:=λg a=>by
 rw[Kk] at a
 split at a
 ·rcases zK.1 a with a|a
  ·exact h g a
  ·simp at a;subst a;exact⟨e,d,rfl,rfl,rfl⟩
 ·exact h g a
theorem YZ{first last:Int}{p:Ev->Prop}(m:0<=first):∀(os:List Ev) (z:Int × Ev × TellS),first<=z.1->z.1<=max first last->RiseTo z.2.2.segs z.1->(∀g∈z.2.2.segs,∃e,p e/\Vc e g)->p z.2.1->
  os.Pairwise (λa b=>a.at_<=b.at_)->(∀x∈os,p x/\z.1<=toP first last x.at_)->
  first<=(os.foldl (wM first last) z).1/\(os.foldl (wM first last) z).1<=max first last/\RiseTo (os.foldl (wM first last) z).2.2.segs (os.foldl (wM first last) z).1/\(∀g∈(os.foldl (wM first last) z).2.2.segs,∃e,p e/\Vc e g)/\p (os.foldl (wM first last) z).2.1
 | [],z,l,k,f,c,d,_,_=>⟨l,k,f,c,d⟩
 | x::os,z,l,k,f,c,d,n,i=>by
   obtain⟨k1,k2⟩:=zR.1 n
   have h:=i x (.head _)
   rw[List.foldl_cons]
   refine YZ m os (wM first last z x) ?_ ?_ ?_ ?_ h.1 k2 λy j=>⟨(i y (.tail _ j)).1,?_⟩
   ·simp only[wM,toP];omega
   ·simp only[wM,toP];omega
   ·exact YY f (by omega) h.2
   ·exact kfa c d
   ·have:=k1 y j
    simp only[wM,toP]
    omega
theorem wha{first last:Int}{p:Ev->Prop}{t:TellS}{e:Ev}{os:List Ev}(h:0<=first)(j:RiseTo t.segs first)(d:∀g∈t.segs,∃e,p e/\Vc e g)(f:p e)(l:os.Pairwise λa b=>a.at_<=b.at_)(i:∀x∈os,p x):
  RiseTo (wN first last t e os).segs (max first last)/\∀g∈(wN first last t e os).segs,∃e,p e/\Vc e g:=by
 have:=YZ (last:=last) h os (first,e,t) (Int.le_refl _) (by simp only;omega) j d f l λx c=>⟨i x c,by simp only[toP];omega⟩
 obtain⟨k1,k2,k3,k4,k5⟩:=this
 have k:toP first last last=max first last:=by unfold toP;omega
 unfold wN vY
 rw[k]
 exact⟨YY k3 (by omega) k2,kfa k4 k5⟩
structure InvR (s:Setup) (p:Ev->Prop) (t:TellS) (m:Int):Prop where
 rise:RiseTo t.segs (jw (match t.open_ with|none=>m|some (f,_)=>f.at_) s.unit)
 of:∀g∈t.segs,∃e,p e/\Vc e g
 opn:∀f os,t.open_=some (f,os)->p f/\f.at_<=m/\os.Pairwise (λa b=>a.at_<=b.at_)/\∀x∈os,p x/\x.at_<=m
section
variable {s:Setup} {p:Ev->Prop} {t:TellS} {m:Int}
theorem InvR.none(h:InvR s p t m)(a:t.open_=none):RiseTo t.segs (jw m s.unit):=by
 have:=h.rise;rw[a] at this;exact this
theorem InvR.some{f:Ev}{os:List Ev}(h:InvR s p t m)(a:t.open_=some (f,os)):RiseTo t.segs (jw f.at_ s.unit):=by
 have:=h.rise;rw[a] at this;exact this
theorem Kl(j:z6 s=true){f:Ev}{os:List Ev}(h:InvR s p t m)(a:t.open_=some (f,os)){c:Int}(k:f.at_<=c):
  RiseTo (vJ s t f os c).segs (jw c s.unit)/\∀g∈(vJ s t f os c).segs,∃e,p e/\Vc e g:=by
 obtain⟨⟨b,d⟩,_⟩:=jU j
 obtain⟨k1,k2,k3,k4⟩:=h.opn f os a
 have:=wha (last:=jw c s.unit) (jUa b d) (h.some a) h.of k1 k3 λx i=>(k4 x i).1
 have l:=Kj b d k
 rw[show max (jw f.at_ s.unit) (jw c s.unit)=jw c s.unit by omega] at this
 exact this
theorem VP{e:Ev}{k:Int}(h:InvR s p t m):InvR s p (xK t e k) m:=⟨h.rise,h.of,h.opn⟩
theorem qNa(j:z6 s=true)(n:∀e,p e->0<=e.at_/\e.at_<=31449599)(h:InvR s p t m){a:Int}(o:m<=a):InvR s p (lateP s t a) a:=by
 obtain⟨⟨k,l⟩,v,w⟩:=jU j
 unfold lateP
 cases b:t.open_ with
 | none=>
   simp only
   refine⟨?_,h.of,λf os q=>by rw[b] at q;cases q⟩
   rw[b]
   exact(h.none b).mono (Kj k l o)
 | some q=>
   obtain⟨f,os⟩:=q
   obtain⟨k1,k2,k3,k4⟩:=h.opn f os b
   have u:=n f k1
   simp only
   split
   ·rename_i d
    rw[qp (by unfold Fit;omega)] at d⊢
    have:=Kl (t:=xK t f 1) j (VP h) b (c:=f.at_+s.cap) (by omega)
    refine⟨?_,this.2,λ_ _ q=>by cases q⟩
    exact this.1.mono (Kj k l (show f.at_+s.cap<=a by omega))
   ·refine⟨?_,h.of,λr g q=>?_⟩
    ·rw[b];exact h.some b
    ·obtain⟨k1,k2,k3,k4⟩:=h.opn r g q
     exact⟨k1,by omega,k3,λx i=>⟨(k4 x i).1,by have:=(k4 x i).2;omega⟩⟩
theorem Qga(k:z6 s=true)(r:∀e,p e->0<=e.at_/\e.at_<=31449599)(h:InvR s p t m){e:Ev}(n:e.kind≠2->p e)(v:m<=e.at_):InvR s p (kw s t e) e.at_:=by
 have g:=qNa k r h v
 unfold kw
 by_cases o:e.kind=1
 ·rw[if_pos o]
  have j:=n (by omega)
  cases i:(lateP s t e.at_).open_ with
  | none=>
    simp only
    refine⟨g.none i,g.of,λf os q=>?_⟩
    injection q with q;injection q with q1 q2;subst q1;subst q2
    exact⟨j,Int.le_refl _,.nil,λ_ d=>by cases d⟩
  | some q=>
    obtain⟨f,os⟩:=q
    simp only
    have:=Kl (t:=xK (lateP s t e.at_) f 2) k (VP g) i (c:=e.at_) (g.opn f os i).2.1
    refine⟨this.1,this.2,λf os q=>?_⟩
    injection q with q;injection q with q1 q2;subst q1;subst q2
    exact⟨j,Int.le_refl _,.nil,λ_ d=>by cases d⟩
 ·rw[if_neg o]
  cases i:(lateP s t e.at_).open_ with
  | none=>exact VP g
  | some q=>
    obtain⟨f,os⟩:=q
    simp only
    split
    ·have:=Kl k g i (c:=e.at_) (g.opn f os i).2.1
     exact⟨this.1,this.2,λ_ _ q=>by cases q⟩
    ·rename_i y
     obtain⟨k1,k2,k3,k4⟩:=g.opn f os i
     refine⟨g.some i,g.of,λz u q=>?_⟩
     injection q with q;injection q with q1 q2;subst q1;subst q2
     refine⟨k1,k2,qT.2 ⟨k3,by simp,λa w b l=>?_⟩,λx d=>?_⟩
     ·simp at l;subst l;exact(k4 a w).2
     ·rcases zK.1 d with d|d
      ·exact k4 x d
      ·simp at d;subst d;exact⟨n y,Int.le_refl _⟩
theorem Y0(i:z6 s=true)(j:∀e,p e->0<=e.at_/\e.at_<=31449599){w:Int}:∀(l:List Ev) (t:TellS) (m:Int),InvR s p t m->l.Pairwise (λa b=>a.at_<=b.at_)->(∀e∈l,yf s w e=true->(e.kind≠2->p e)/\m<=e.at_/\e.at_<=31449599)->m<=31449599->∃q,q<=31449599/\InvR s p (l.foldl (vZ s w) t) q
 | [],t,m,h,_,_,n=>⟨m,n,h⟩
 | e::l,t,m,h,k,g,n=>by
   obtain⟨k1,k2⟩:=zR.1 k
   rw[List.foldl_cons]
   unfold vZ
   split
   ·rename_i d
    have o:=g e (.head _) d
    exact Y0 i j l _ e.at_ (Qga i j h o.1 o.2.1) k2 (λx c f=>⟨(g x (.tail _ c) f).1,k1 x c,(g x (.tail _ c) f).2.2⟩) o.2.2
   ·exact Y0 i j l t m h k2 (λx c=>g x (.tail _ c)) n
end
theorem yW{s:Setup}{l:List Ev}{w:Int}(c:z6 s=true):
  RiseTo (qA s l w).1 32054400/\∀g∈(qA s l w).1,∃e,(e∈l/\yf s w e=true/\e.kind≠2)/\Vc e g:=by
 obtain⟨⟨k,n⟩,_⟩:=jU c
 have f:∀e,(e∈l/\yf s w e=true/\e.kind≠2)->0<=e.at_/\e.at_<=31449599:=λe d=>(wO (yC (kea.1 d.2.1).2.2)).2.2.2.1
 obtain⟨m,o,hi⟩:=Y0 (s:=s) (w:=w) (p:=λe=>e∈l/\yf s w e=true/\e.kind≠2) c f (qv l) ⟨none,[],[]⟩ 0 ⟨⟨λ_ h=>(by cases h),.nil⟩,λ_ h=>(by cases h),λ_ _ h=>(by cases h)⟩ (Xva (ko l)) (λe d b=>by
  have:=(wO (yC (kea.1 b).2.2)).2.2.2.1
  exact⟨λj=>⟨Xz.1 d,b,j⟩,by omega,by omega⟩) (by omega)
 have i:=qNa c f hi (a:=32054400) (by omega)
 unfold qA
 rw[if_pos c]
 refine⟨i.rise.mono ?_,i.of⟩
 exact Xua k n
def spS(g:Seg):Spn:=⟨g.from_,g.to_⟩
def jub(t:TellS)(x:Int):Prop:=Cov (t.segs.map spS) x
def opF(t:TellS):Option Ev:=t.open_.map (·.1)
structure EqT (a b:TellS):Prop where
 opn:opF a=opF b
 cov:∀x,jub a x↔jub b x
section
variable {s:Setup} {a b:TellS}
theorem XD{t:TellS}{m a:Int}(h:m<=a):lateP s (lateP s t m) a=lateP s t a:=by
 cases b:t.open_ with
 | none=>
   have:∀k,lateP s t k=t:=λk=>by unfold lateP;rw[b]
   rw[this,this]
 | some q=>
   obtain⟨f,os⟩:=q
   by_cases c:m>wr (f.at_+s.cap)
   ·have:∀k,k>wr (f.at_+s.cap)->lateP s t k=vJ s (xK t f 1) f os (wr (f.at_+s.cap)):=λk d=>by unfold lateP;rw[b];simp only;rw[if_pos d]
    rw[this m c,this a (by omega)]
    rfl
   ·have:lateP s t m=t:=by unfold lateP;rw[b];simp only;rw[if_neg c]
    rw[this]
theorem VQ{t:TellS}{m:Int}{f:Ev}{os:List Ev}(h:(lateP s t m).open_=some (f,os)):lateP s t m=t/\t.open_=some (f,os)/\m<=wr (f.at_+s.cap):=by
 cases a:t.open_ with
 | none=>
   have:lateP s t m=t:=by unfold lateP;rw[a]
   rw[this,a] at h;cases h
 | some q=>
   obtain⟨g,b⟩:=q
   by_cases c:m>wr (g.at_+s.cap)
   ·have:lateP s t m=vJ s (xK t g 1) g b (wr (g.at_+s.cap)):=by unfold lateP;rw[a];simp only;rw[if_pos c]
    rw[this] at h;cases h
   ·have:lateP s t m=t:=by unfold lateP;rw[a];simp only;rw[if_neg c]
    rw[this,a] at h
    injection h with h;injection h with h1 h2;subst h1;subst h2
    exact⟨this,rfl,by omega⟩
structure Sim (s:Setup) (p:Ev->Prop) (a b:TellS) (m:Int):Prop where
 ia:InvR s p a m
 ib:InvR s p b m
 eq:EqT (lateP s a m) (lateP s b m)
end
theorem J4{p:Ev->Bool}(x:Ev):∀ {l:List Ev},Srt l->(vH x l).filter p=if p x then vH x (l.filter p) else l.filter p
 | [],_=>by
   simp only[vH,List.filter_cons,List.filter_nil]
 | y::l,h=>by
   have h':Srt ([y]++l):=h
   have e:=(xn.1 h').2.1
   rw[jA]
   cases a:ltE y x
   ·simp only[Bool.false_eq_true,if_false]
    rw[List.filter_cons]
    cases d:p x
    ·simp
    ·simp only[if_true]
     have b:=x9a h a
     have:∀q:List Ev,(∀z∈q,ltE z x=false)->vH x q=x::q:=λq f=>by
      cases q with
      | nil=>rfl
      | cons z q=>rw[jA,f z (.head _)];rfl
     rw[this _ λz c=>b z (zT.1 c).1]
   ·simp only[if_true]
    rw[List.filter_cons,J4 x e]
    rw[List.filter_cons]
    cases d:p x<;>cases g:p y<;>simp[jA,a]
theorem wo(p:Ev->Bool):∀(l:List Ev),qv (l.filter p)=(qv l).filter p
 | []=>rfl
 | x::l=>by
   rw[List.filter_cons,show qv (x::l)=vH x (qv l) from rfl,J4 x (ko l), <-wo p l]
   split
   ·rfl
   ·rfl
theorem Y4{t u:Int}(b:1<=u)(a:u<=3600)(g:0<=t)(c:t<=32054400):2*jw t u<=2*t+u/\(2*t - u<=2*jw t u):=by
 rw[J3 b a,show qI t 32054400=t by unfold qI;omega]
 have e:=Int.emod_add_mul_ediv t u
 have f:=Int.emod_nonneg t (show u≠0 by omega)
 have d:=Int.emod_lt_of_pos t (show 0<u by omega)
 rw[Int.mul_comm] at e
 unfold rqP
 split
 ·rw[Int.add_mul];omega
 ·omega
structure InvB (s:Setup) (t:TellS):Prop where
 seg:∀g∈t.segs,g.kind=0/\g.to_ - g.from_<=s.cap+s.unit
 opn:∀f os,t.open_=some (f,os)->os=[]/\f.kind=1/\0<=f.at_/\f.at_<=31449599
section
variable {s:Setup} {t:TellS}
end
theorem qOa{x y:Ev}(h:x.id≠y.id):ltE x y= !ltE y x:=by
 cases a:ltE x y<;>cases b:ltE y x<;>try rfl
 ·have:=(kR x y).1 a
  have:=(kR y x).1 b
  omega
 ·have:=(wC x y).1 a
  have:=(wC y x).1 b
  omega
theorem qPa{x y:Ev}(h:x.id≠y.id):∀(l:List Ev),vH x (vH y l)=vH y (vH x l)
 | []=>by
   have:=qOa h
   show vH x [y]=vH y [x]
   rw[jA,jA,this]
   cases ltE y x<;>rfl
 | z::l=>by
   have c:=qOa h
   rw[jA,jA]
   cases a:ltE z x<;>cases b:ltE z y<;>simp only[Bool.false_eq_true,if_false,if_true]<;>simp only[jA,a,b,Bool.false_eq_true,if_false,if_true,c]
   ·cases ltE y x<;>simp
   ·have e:ltE y x=false:=by
     refine(kR y x).2 λq=>?_
     have:=(kR z x).1 a
     have:=(wC z y).1 b
     omega
    simp[e]
   ·have e:ltE y x=true:=by
     refine(wC y x).2 ?_
     have:=(wC z x).1 a
     have:=(kR z y).1 b
     omega
    simp[e]
   ·rw[qPa h l]
theorem wia{a b:List Ev}(h:a.Perm b):(a.map (·.id)).Nodup->qv a=qv b:=by
 induction h with
 | nil=>intro _;rfl
 | cons x _ f=>
   intro c
   show vH x _=vH x _
   rw[f (List.nodup_cons.1 c).2]
 | swap x y l=>
   intro c
   show vH y (vH x _)=vH x (vH y _)
   refine qPa ?_ _
   simp only[List.map_cons,List.nodup_cons,zx,not_or] at c
   exact c.1.1
 | trans g _ e d=>
   intro c
   rw[e c,d ((g.map (·.id)).nodup_iff.1 c)]
theorem Y5{s:Setup}{w:Int}:∀(l:List Ev) (t:TellS),l.foldl (vZ s w) t=(l.filter (yf s w)).foldl (kw s) t
 | [],t=>rfl
 | e::l,t=>by
   rw[List.foldl_cons,List.filter_cons]
   cases h:yf s w e
   ·have a:vZ s w t e=t:=by simp[vZ,h]
    rw[a,Y5 l]
    rfl
   ·have a:vZ s w t e=kw s t e:=by simp[vZ,h]
    rw[a,Y5 l]
    rfl
theorem jVa{s:Setup}{w:Int}{l:List Ev}:goP s w (qv l)=(qv (l.filter (yf s w))).foldl (kw s) ⟨none,[],[]⟩:=by
 rw[goP,Y5, <-wo]
def kcb(s:Setup)(g:Seg):Seg:=⟨jw g.from_ s.unit,jw g.to_ s.unit,g.kind,g.id,g.code⟩
def jvb(s:Setup)(l:List Seg):List Seg:=(l.map (kcb s)).filter λg=>decide (g.from_<g.to_)
structure SimO (s:Setup) (a b:TellS):Prop where
 opn:a.open_=b.open_
 segs:b.segs=jvb s a.segs
 os:∀f os,a.open_=some (f,os)->os=[]/\0<=f.at_/\f.at_<=31449599
section
variable {s:Setup} {a b:TellS}
end
structure FlagIn (done:List Ev) (t:TellS) (G:List (Ev × Int)):Prop where
 flags:t.flags=G.map λp=>⟨p.1.id,p.2⟩
 mem:∀p∈G,p.1∈done/\(p.1.kind=1↔(p.2=1∨p.2=2))
 nodup:(G.map (·.1.id)).Nodup
 opn:∀f os,t.open_=some (f,os)->f∈done/\f.kind=1/\∀p∈G,p.1.id≠f.id
 cnt:(done.countP λe=>e.kind==1)+(G.countP λp=>p.1.kind==2)=(done.countP λe=>e.kind==2)+(G.countP λp=>p.1.kind==1)+(if t.open_.isSome then 1 else 0)
section
variable {s:Setup} {t:TellS} {done:List Ev} {G:List (Ev × Int)}
end
theorem Y6(x:Ev):∀(l:List Ev),(vH x l).Perm (x::l)
 | []=> .refl _
 | y::l=>by
   rw[jA]
   split
   ·exact((Y6 x l).cons y).trans (.swap x y l)
   ·exact .refl _
theorem xL:∀(l:List Ev),(qv l).Perm l
 | []=> .refl _
 | x::l=>(Y6 x (qv l)).trans ((xL l).cons x)
