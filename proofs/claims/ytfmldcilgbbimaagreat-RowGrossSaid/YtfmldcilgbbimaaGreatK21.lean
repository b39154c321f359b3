/-
  Joined.
-/
import Derived.Test.YtfmldcilgbbimaaGreatK20
set_option linter.unusedSimpArgs false
set_option linter.unusedVariables false
namespace Go.Proofs.YtfmldcilgbbimaaGreat.Ax
def leS (a b:Spn):Prop:=a.from_<=b.from_
def jj (s:Spn):Spn:=⟨max s.from_ 0,min s.to_ 32054400⟩
def qG (l:List Spn):List Spn:=(l.map jj).filter λs=>decide (s.from_<s.to_)
def jG:Spn->List Spn->List Spn
 | c,[]=>[c]
 | c,s::r=>if s.from_<=c.to_ then jG ⟨c.from_,max c.to_ s.to_⟩ r else c::jG s r
def vG:List Spn->List Spn
 | []=>[]
 | s::r=>jG s r
def Qs (l:List Spn):List Spn:=l.mergeSort λa b=>decide (a.from_<=b.from_)
def zw (l:List Spn):List Spn:=vG (Qs (qG l))
def Cov (l:List Spn) (t:Int):Prop:=∃s∈l,s.from_<=t/\t<s.to_
structure PlainS (l:List Spn):Prop where
 pos:∀s∈l,s.from_<s.to_
 gap:l.Pairwise λa b=>a.to_<b.from_
theorem qt {x:Spn} {l:List Spn} {t:Int}:Cov (x::l) t↔(x.from_<=t/\t<x.to_)∨Cov l t:=by
 simp[Cov]
theorem JS {t:Int}:¬ Cov [] t:=λ⟨_,h,_⟩=>by cases h
theorem wea {a b:List Spn} {t:Int}:Cov (a++b) t↔Cov a t∨Cov b t:=by
 simp only[Cov,List.mem_append]
 constructor
 ·rintro ⟨s,h | h,k⟩
  ·exact .inl ⟨s,h,k⟩
  ·exact .inr ⟨s,h,k⟩
 ·rintro (⟨s,h,k⟩ | ⟨s,h,k⟩)
  ·exact ⟨s,.inl h,k⟩
  ·exact ⟨s,.inr h,k⟩
theorem PlainS.tail {x:Spn} {l:List Spn} (h:PlainS (x::l)):PlainS l:=⟨λs k=>h.pos s (.tail _ k),(List.pairwise_cons.1 h.gap).2⟩
theorem PlainS.above {x:Spn} {l:List Spn} (h:PlainS (x::l)) {t:Int} (k:Cov l t):x.to_<t:=by
 obtain ⟨s,a,b,_⟩:=k
 have:=(List.pairwise_cons.1 h.gap).1 s a
 omega
theorem PlainS.first {x:Spn} {l:List Spn} (h:PlainS (x::l)) {t:Int} (k:Cov (x::l) t):x.from_<=t:=by
 have a:=h.pos x (.head _)
 rcases qt.1 k with k | k
 ·exact k.1
 ·have:=h.above k;omega
theorem XA:∀ {a b:List Spn},PlainS a->PlainS b->(∀t,Cov a t↔Cov b t)->a=b
 | [],[],_,_,_=>rfl
 | [],y::b,_,c,h=>by
   have f:=c.pos y (.head _)
   exact absurd ((h y.from_).2 (qt.2 (.inl ⟨Int.le_refl _,f⟩))) JS
 | x::a,[],d,_,h=>by
   have f:=d.pos x (.head _)
   exact absurd ((h x.from_).1 (qt.2 (.inl ⟨Int.le_refl _,f⟩))) JS
 | x::a,y::b,d,c,h=>by
   have i:=d.pos x (.head _)
   have g:=c.pos y (.head _)
   have n:=c.first ((h x.from_).1 (qt.2 (.inl ⟨Int.le_refl _,i⟩)))
   have j:=d.first ((h y.from_).2 (qt.2 (.inl ⟨Int.le_refl _,g⟩)))
   have m:¬ x.to_<y.to_:=λk=>by
    have:=(h x.to_).2 (qt.2 (.inl ⟨by omega,k⟩))
    rcases qt.1 this with q | q
    ·omega
    ·have:=d.above q;omega
   have l:¬ y.to_<x.to_:=λk=>by
    have:=(h y.to_).1 (qt.2 (.inl ⟨by omega,k⟩))
    rcases qt.1 this with q | q
    ·omega
    ·have:=c.above q;omega
   have e:x=y:=by
    cases x;cases y
    simp only[Spn.mk.injEq] at*
    omega
   subst e
   refine congrArg _ (XA d.tail c.tail λt=>⟨λk=>?_,λk=>?_⟩)
   ·rcases qt.1 ((h t).1 (qt.2 (.inr k))) with q | q
    ·have:=d.above k;omega
    ·exact q
   ·rcases qt.1 ((h t).2 (qt.2 (.inr k))) with q | q
    ·have:=c.above k;omega
    ·exact q
theorem wX:∀ {c:Spn} {r:List Spn},c.from_<c.to_->(∀s∈r,s.from_<s.to_)->r.Pairwise leS->(∀s∈r,c.from_<=s.from_)->
  PlainS (jG c r)/\(∀s∈jG c r,c.from_<=s.from_)/\∀t,Cov (jG c r) t↔Cov (c::r) t
 | c,[],g,_,_,_=>by
   have e:jG c []=[c]:=by simp[jG]
   rw[e]
   exact ⟨⟨λs h=>by simp at h;subst h;exact g,by simp⟩,λs h=>by simp at h;subst h;exact Int.le_refl _,λt=>Iff.rfl⟩
 | c,s::r,g,l,n,p=>by
   have i:=l s (.head _)
   have f:∀q∈r,q.from_<q.to_:=λq h=>l q (.tail _ h)
   obtain ⟨b,d⟩:=List.pairwise_cons.1 n
   have o:=p s (.head _)
   unfold jG
   split
   ·rename_i j
    have a:=wX (c:=⟨c.from_,max c.to_ s.to_⟩) (r:=r) (by simp only;omega) f d (λq h=>by have:=b q h;simp only[leS] at this ⊢;omega)
    refine ⟨a.1,a.2.1,λt=>(a.2.2 t).trans ?_⟩
    rw[qt,qt,qt]
    simp only
    constructor
    ·rintro (k | k)
     ·by_cases m:t<c.to_
      ·exact .inl ⟨k.1,m⟩
      ·exact .inr (.inl ⟨by omega,by omega⟩)
     ·exact .inr (.inr k)
    ·rintro (k | k | k)
     ·exact .inl ⟨k.1,by omega⟩
     ·exact .inl ⟨by omega,by omega⟩
     ·exact .inr k
   ·rename_i j
    have a:=wX (c:=s) (r:=r) i f d b
    refine ⟨⟨λq h=>?_,List.pairwise_cons.2 ⟨λq h=>?_,a.1.gap⟩⟩,λq h=>?_,λt=>?_⟩
    ·rcases List.mem_cons.1 h with rfl | h
     ·exact g
     ·exact a.1.pos q h
    ·have:=a.2.1 q h;omega
    ·rcases List.mem_cons.1 h with rfl | h
     ·exact Int.le_refl _
     ·have:=a.2.1 q h;omega
    ·rw[qt,qt,a.2.2 t]
theorem vk {l:List Spn} (a:∀s∈l,s.from_<s.to_) (b:l.Pairwise leS):PlainS (vG l)/\∀t,Cov (vG l) t↔Cov l t:=by
 cases l with
 | nil=>exact ⟨⟨λ_ h=>(by cases h),List.Pairwise.nil⟩,λ_=>Iff.rfl⟩
 | cons s r=>
   have:=wX (a s (.head _)) (λq h=>a q (.tail _ h)) (List.pairwise_cons.1 b).2 (List.pairwise_cons.1 b).1
   exact ⟨this.1,this.2.2⟩
theorem xx (l:List Spn):(Qs l).Perm l:=List.mergeSort_perm l _
theorem wY (l:List Spn):(Qs l).Pairwise leS:=by
 have:=List.pairwise_mergeSort (le:=λa b:Spn=>decide (a.from_<=b.from_)) (λa b c e d=>by simp at *; omega) (λa b=>by simp;omega) l
 exact this.imp λh=>by simpa [leS] using h
theorem Qt {a b:List Spn} (h:a.Perm b) (t:Int):Cov a t↔Cov b t:=by
 simp only[Cov]
 exact ⟨λ⟨s,k,r⟩=>⟨s,h.mem_iff.1 k,r⟩,λ⟨s,k,r⟩=>⟨s,h.mem_iff.2 k,r⟩⟩
theorem Zd {l:List Spn}:∀s∈qG l,s.from_<s.to_:=λs h=>by
 simp only[qG,List.mem_filter,decide_eq_true_eq] at h
 exact h.2
theorem jGa {l m:List Spn} (c:m.Perm (qG l)) (d:m.Pairwise leS):vG m=zw l:=by
 have p1:∀s∈m,s.from_<s.to_:=λs h=>Zd s (c.mem_iff.1 h)
 have p2:∀s∈Qs (qG l),s.from_<s.to_:=λs h=>Zd s ((xx _).mem_iff.1 h)
 have b:=vk p1 d
 have a:=vk p2 (wY (qG l))
 refine XA b.1 a.1 λt=>?_
 rw[b.2,show zw l=vG (Qs (qG l)) from rfl,a.2,Qt c,Qt (xx (qG l))]
theorem j9 (l:List Spn):PlainS (zw l):=(vk (λs h=>Zd s ((xx _).mem_iff.1 h)) (wY (qG l))).1
theorem jN (l:List Spn) (t:Int):Cov (zw l) t↔(0<=t/\t<32054400/\Cov l t):=by
 have d:=(vk (λs h=>Zd s ((xx _).mem_iff.1 h)) (wY (qG l))).2 t
 rw[show zw l=vG (Qs (qG l)) from rfl,d,Qt (xx _)]
 simp only[Cov,qG,List.mem_filter,List.mem_map,decide_eq_true_eq]
 constructor
 ·rintro ⟨s,⟨⟨x,a,rfl⟩,e⟩,b,c⟩
  simp only[jj] at b c
  exact ⟨by omega,by omega,x,a,by omega,by omega⟩
 ·rintro ⟨b,c,x,a,g,f⟩
  exact ⟨jj x,⟨⟨x,a,rfl⟩,by simp only[jj];omega⟩,by simp only[jj];omega,by simp only[jj];omega⟩
theorem zsa {a b:List Spn} (h:∀t,0<=t->t<32054400->(Cov a t↔Cov b t)):zw a=zw b:=
 XA (j9 a) (j9 b) λt=>by
  rw[jN,jN]
  constructor
  ·rintro ⟨d,c,e⟩;exact ⟨d,c,(h t d c).1 e⟩
  ·rintro ⟨d,c,e⟩;exact ⟨d,c,(h t d c).2 e⟩
def qq (l:List Spn):Int:=(l.map λs=>s.to_ - s.from_).sum
theorem XB {α:Type} {p:α->Bool}:∀ {l:List α},(∀x∈l,p x=true)->l.filter p=l
 | [],_=>rfl
 | x::l,h=>by rw[List.filter_cons,if_pos (h x (.head _)),XB λy k=>h y (.tail _ k)]
theorem jI {l:List Spn}:∀s∈zw l,0<=s.from_/\s.from_<s.to_/\s.to_<=32054400:=λs a=>by
 have b:=(j9 l).pos s a
 have d:=(jN l s.from_).1 ⟨s,a,by omega,b⟩
 have c:=(jN l (s.to_ - 1)).1 ⟨s,a,by omega,by omega⟩
 omega
theorem ZG:∀(c:Spn) (r:List Spn),(jG c r).length<=r.length+1
 | _,[]=>by simp[jG]
 | c,s::r=>by
   unfold jG
   split
   ·have:=ZG ⟨c.from_,max c.to_ s.to_⟩ r;simp;omega
   ·have:=ZG s r;simp;omega
theorem zta:∀(l:List Spn),(vG l).length<=l.length
 | []=>by simp[vG]
 | s::r=>by simpa [vG] using ZG s r
theorem Ze (l:List Spn):(qG l).length<=l.length:=by
 have:=List.length_filter_le (λs:Spn=>decide (s.from_<s.to_)) (l.map jj)
 simpa [qG] using this
theorem zq (l:List Spn):(zw l).length<=l.length:=by
 have a:=zta (Qs (qG l))
 have b:=(xx (qG l)).length_eq
 have c:=Ze l
 unfold zw
 omega
end Go.Proofs.YtfmldcilgbbimaaGreat.Ax
namespace Go.Proofs.YtfmldcilgbbimaaGreat.Ax
open Go Go.Proofs
theorem wC {lo a x:Int} (h:wA lo a [x]=true):lo<=x/\x<=a:=by
 simp[wA,Ks] at h
 omega
theorem wi {s:Setup} (h:zz s=true):(1<=s.unit/\s.unit<=3600)/\(60<=s.cap/\s.cap<=57600):=by
 simp only[zz,xM,Bool.and_eq_true] at h
 exact ⟨wC h.1.2.1.1.1.1.2,wC h.1.2.1.1.1.2⟩
def rqP (t u:Int):Int:=if t % u≥u - t % u then t / u+1 else t / u
theorem Qu {t u:Int} (k:1<=u) (a:u<=3600):qw t u=min (rqP (qo t 32054400) u*u) 32054400:=by
 have c0:0<=qo t 32054400:=by unfold qo;omega
 have e:qo t 32054400<=32054400:=by unfold qo;omega
 have l:=Int.emod_nonneg (qo t 32054400) (show u≠0 by omega)
 have j:=Int.emod_lt_of_pos (qo t 32054400) (show 0<u by omega)
 have m:0<=qo t 32054400 / u:=Int.ediv_nonneg c0 (by omega)
 have h:qo t 32054400 / u<=32054400:=Int.le_trans (Int.ediv_le_self _ c0) e
 have b:ji (qo t 32054400) u=(qo t 32054400 / u,qo t 32054400 % u):=by
  unfold ji
  rw[Int.tdiv_eq_ediv_of_nonneg c0,Int.tmod_eq_emod_of_nonneg c0,if_neg (by omega),zt (by unfold Fit;omega)]
 have f:Qq (qo t 32054400) u=(rqP (qo t 32054400) u,0):=by
  unfold Qq
  rw[if_neg (by omega),b]
  simp only
  rw[zt (n:=u - qo t 32054400 % u) (by unfold Fit;omega)]
  unfold rqP
  split
  ·rw[zt (by unfold Fit;omega)]
  ·rfl
 have c:0<=rqP (qo t 32054400) u:=by unfold rqP;split<;>omega
 have d:rqP (qo t 32054400) u<=32054401:=by unfold rqP;split<;>omega
 have g:rqP (qo t 32054400) u*u<=32054401*3600:=Int.mul_le_mul d a (by omega) (by omega)
 have i:0<=rqP (qo t 32054400) u*u:=Int.mul_nonneg c (by omega)
 unfold qw
 rw[if_neg (by omega),f]
 simp only
 rw[show min u 64108801=u by omega,zt (by unfold Fit;omega)]
theorem wfa {a b u:Int} (e:1<=u) (h:a<=b):rqP a u<=rqP b u:=by
 have f:a / u<=b / u:=Int.ediv_le_ediv (by omega) h
 have d:=Int.emod_add_mul_ediv a u
 have g:=Int.emod_add_mul_ediv b u
 have:=Int.emod_nonneg b (show u≠0 by omega)
 have:=Int.emod_lt_of_pos a (show 0<u by omega)
 unfold rqP
 by_cases c:a / u=b / u
 ·rw[c] at d⊢
  have i:a % u<=b % u:=by omega
  split<;>split<;>omega
 ·split<;>split<;>omega
theorem ZH {a b u:Int} (c:1<=u) (d:u<=3600) (h:a<=b):qw a u<=qw b u:=by
 rw[Qu c d,Qu c d]
 have e:qo a 32054400<=qo b 32054400:=by unfold qo;omega
 have:=Int.mul_le_mul_of_nonneg_right (wfa c e) (show 0<=u by omega)
 omega
theorem VR {a u:Int} (d:1<=u) (b:u<=3600):0<=qw a u:=by
 rw[Qu d b]
 have c0:0<=qo a 32054400:=by unfold qo;omega
 have e:0<=qo a 32054400 / u:=Int.ediv_nonneg c0 (by omega)
 have c:0<=rqP (qo a 32054400) u:=by unfold rqP;split<;>omega
 have:=Int.mul_nonneg c (show 0<=u by omega)
 omega
theorem kwa {a u:Int} (b:1<=u) (c:u<=3600):qw a u<=32054400:=by
 rw[Qu b c]
 omega
theorem zua {k:Int} (h:QL k=true):1<=k/\k<=7:=by
 simp[QL] at h
 omega
theorem QS {s:Setup} {e:Ev} (h:yL s e=true):qp e=true:=by
 unfold yL at h
 cases a:qp e
 ·rw[a] at h;simp at h
 ·rfl
theorem Jl {e:Ev} (h:qp e=true):(1<=e.kind/\e.kind<=7)/\(0<=e.id/\e.id<=100000)/\0<=e.worker/\(0<=e.at_/\e.at_<=31449599)/\(e.kind≠4->e.code=0):=by
 simp only[qp,Bool.and_eq_true,Bool.not_not] at h
 obtain ⟨g,c,a,d,b⟩:=h
 refine ⟨zua g,?_,?_,?_,λf=>?_⟩
 ·simp[wQ] at c;exact c
 ·simp at a;exact a
 ·simp[wQ] at d;exact d
 ·unfold jv at b
  by_cases a:e.kind=3
  ·simp[a] at b;omega
  ·simp[a,f] at b;omega
theorem WS {s:Setup} {w:Int} {e:Ev}:QR s w e=true↔e.worker=w/\e.kind≠7/\yL s e=true:=by
 simp[QR,and_assoc]
theorem y1a {l:List Ev} (h:Srt l):l.Pairwise λa b=>a.at_<=b.at_:=by
 induction l with
 | nil=>exact .nil
 | cons x l d=>
   have h':Srt ([x]++l):=h
   obtain ⟨_,f,c⟩:=jc.1 h'
   refine List.pairwise_cons.2 ⟨λy e=>?_,d f⟩
   have:=c x (.head _) y e
   have:=(jr y x).1 this
   omega
structure RiseTo (l:List Seg) (hi:Int):Prop where
 each:∀g∈l,0<=g.from_/\g.from_<g.to_/\g.to_<=hi
 gap:l.Pairwise λa b=>a.to_<=b.from_
theorem RiseTo.mono {l:List Seg} {a b:Int} (h:RiseTo l a) (k:a<=b):RiseTo l b:=⟨λg c=>by have:=h.each g c;omega,h.gap⟩
theorem RiseTo.snoc {l:List Seg} {b:Int} {g:Seg} (h:RiseTo l b) (h0:0<=b) (e:g.from_=b) (d:g.from_<g.to_):RiseTo (l++[g]) g.to_:=by
 refine ⟨λx a=>?_,List.pairwise_append.2 ⟨h.gap,by simp,λx a y c=>?_⟩⟩
 ·rcases List.mem_append.1 a with a | a
  ·have:=h.each x a;omega
  ·simp at a;subst a;omega
 ·simp at c;subst c
  have:=h.each x a
  omega
def Qv (e:Ev) (g:Seg):Prop:=g.id=e.id/\g.kind=Zq e.kind/\g.code=e.code
theorem XC {t:TellS} {b c:Int} {e:Ev}:(va t b c e).segs=if b<c then t.segs++[⟨b,c,Zq e.kind,e.id,e.code⟩] else t.segs:=by
 unfold va
 split<;>rfl
theorem XD {t:TellS} {b c:Int} {e:Ev} (h:RiseTo t.segs b) (h0:0<=b) (a:b<=c):RiseTo (va t b c e).segs c:=by
 rw[XC]
 split
 ·exact h.snoc (g:=⟨b,c,Zq e.kind,e.id,e.code⟩) h0 rfl (by simp only;omega)
 ·exact h.mono a
theorem WT {t:TellS} {b c:Int} {e:Ev} {p:Ev->Prop} (h:∀g∈t.segs,∃e,p e/\Qv e g) (d:p e):∀g∈(va t b c e).segs,∃e,p e/\Qv e g:=λg a=>by
 rw[XC] at a
 split at a
 ·rcases List.mem_append.1 a with a | a
  ·exact h g a
  ·simp at a;subst a;exact ⟨e,d,rfl,rfl,rfl⟩
 ·exact h g a
theorem XE {first last:Int} {p:Ev->Prop} (m:0<=first):∀(os:List Ev) (z:Int × Ev × TellS),first<=z.1->z.1<=max first last->RiseTo z.2.2.segs z.1->(∀g∈z.2.2.segs,∃e,p e/\Qv e g)->p z.2.1->
  os.Pairwise (λa b=>a.at_<=b.at_)->(∀x∈os,p x/\z.1<=toP first last x.at_)->
  first<=(os.foldl (vb first last) z).1/\(os.foldl (vb first last) z).1<=max first last/\RiseTo (os.foldl (vb first last) z).2.2.segs (os.foldl (vb first last) z).1/\(∀g∈(os.foldl (vb first last) z).2.2.segs,∃e,p e/\Qv e g)/\p (os.foldl (vb first last) z).2.1
 | [],z,l,h,c,d,f,_,_=>⟨l,h,c,d,f⟩
 | x::os,z,l,h,c,d,f,n,k=>by
   obtain ⟨k1,k2⟩:=List.pairwise_cons.1 n
   have j:=k x (.head _)
   rw[List.foldl_cons]
   refine XE m os (vb first last z x) ?_ ?_ ?_ ?_ j.1 k2 λy i=>⟨(k y (.tail _ i)).1,?_⟩
   ·simp only[vb,toP];omega
   ·simp only[vb,toP];omega
   ·exact XD c (by omega) j.2
   ·exact WT d f
   ·have:=k1 y i
    simp only[vb,toP]
    omega
theorem zva {first last:Int} {p:Ev->Prop} {t:TellS} {e:Ev} {os:List Ev} (k:0<=first) (d:RiseTo t.segs first) (f:∀g∈t.segs,∃e,p e/\Qv e g) (i:p e) (l:os.Pairwise λa b=>a.at_<=b.at_) (j:∀x∈os,p x):
  RiseTo (xF first last t e os).segs (max first last)/\∀g∈(xF first last t e os).segs,∃e,p e/\Qv e g:=by
 have:=XE (last:=last) k os (first,e,t) (Int.le_refl _) (by simp only;omega) d f i l λx h=>⟨j x h,by simp only[toP];omega⟩
 obtain ⟨k1,k2,k3,k4,k5⟩:=this
 have c:toP first last last=max first last:=by unfold toP;omega
 unfold xF j8
 rw[c]
 exact ⟨XD k3 (by omega) k2,WT k4 k5⟩
structure InvR (s:Setup) (p:Ev->Prop) (t:TellS) (m:Int):Prop where
 rise:RiseTo t.segs (qw (match t.open_ with | none=>m | some (f,_)=>f.at_) s.unit)
 of:∀g∈t.segs,∃e,p e/\Qv e g
 opn:∀f os,t.open_=some (f,os)->p f/\f.at_<=m/\os.Pairwise (λa b=>a.at_<=b.at_)/\∀x∈os,p x/\x.at_<=m
section
variable {s:Setup} {p:Ev->Prop} {t:TellS} {m:Int}
theorem InvR.none (h:InvR s p t m) (a:t.open_=none):RiseTo t.segs (qw m s.unit):=by
 have:=h.rise;rw[a] at this;exact this
theorem InvR.some {f:Ev} {os:List Ev} (h:InvR s p t m) (a:t.open_=some (f,os)):RiseTo t.segs (qw f.at_ s.unit):=by
 have:=h.rise;rw[a] at this;exact this
theorem ZI (j:zz s=true) {f:Ev} {os:List Ev} (h:InvR s p t m) (b:t.open_=some (f,os)) {c:Int} (i:f.at_<=c):
  RiseTo (vF s t f os c).segs (qw c s.unit)/\∀g∈(vF s t f os c).segs,∃e,p e/\Qv e g:=by
 obtain ⟨⟨a,d⟩,_⟩:=wi j
 obtain ⟨k1,k2,k3,k4⟩:=h.opn f os b
 have:=zva (last:=qw c s.unit) (VR a d) (h.some b) h.of k1 k3 λx k=>(k4 x k).1
 have l:=ZH a d i
 rw[show max (qw f.at_ s.unit) (qw c s.unit)=qw c s.unit by omega] at this
 exact this
theorem QT {e:Ev} {k:Int} (h:InvR s p t m):InvR s p (xE t e k) m:=⟨h.rise,h.of,h.opn⟩
theorem K0 (j:zz s=true) (n:∀e,p e->0<=e.at_/\e.at_<=31449599) (h:InvR s p t m) {a:Int} (r:m<=a):InvR s p (qF s t a) a:=by
 obtain ⟨⟨i,l⟩,v,u⟩:=wi j
 unfold qF
 cases b:t.open_ with
 | none=>
   simp only
   refine ⟨?_,h.of,λf os q=>by rw[b] at q;cases q⟩
   rw[b]
   exact (h.none b).mono (ZH i l r)
 | some q=>
   obtain ⟨f,os⟩:=q
   obtain ⟨k1,k2,k3,k4⟩:=h.opn f os b
   have w:=n f k1
   simp only
   split
   ·rename_i d
    rw[zt (by unfold Fit;omega)] at d⊢
    have:=ZI (t:=xE t f 1) j (QT h) b (c:=f.at_+s.cap) (by omega)
    refine ⟨?_,this.2,λ_ _ q=>by cases q⟩
    exact this.1.mono (ZH i l (show f.at_+s.cap<=a by omega))
   ·refine ⟨?_,h.of,λo g q=>?_⟩
    ·rw[b];exact h.some b
    ·obtain ⟨k1,k2,k3,k4⟩:=h.opn o g q
     exact ⟨k1,by omega,k3,λx k=>⟨(k4 x k).1,by have:=(k4 x k).2;omega⟩⟩
theorem jHa (k:zz s=true) (u:∀e,p e->0<=e.at_/\e.at_<=31449599) (h:InvR s p t m) {e:Ev} (n:e.kind≠2->p e) (w:m<=e.at_):InvR s p (Zr s t e) e.at_:=by
 have g:=K0 k u h w
 unfold Zr
 by_cases o:e.kind=1
 ·rw[if_pos o]
  have j:=n (by omega)
  cases i:(qF s t e.at_).open_ with
  | none=>
    simp only
    refine ⟨g.none i,g.of,λf os q=>?_⟩
    injection q with q;injection q with q1 q2;subst q1;subst q2
    exact ⟨j,Int.le_refl _,.nil,λ_ d=>by cases d⟩
  | some q=>
    obtain ⟨f,os⟩:=q
    simp only
    have:=ZI (t:=xE (qF s t e.at_) f 2) k (QT g) i (c:=e.at_) (g.opn f os i).2.1
    refine ⟨this.1,this.2,λf os q=>?_⟩
    injection q with q;injection q with q1 q2;subst q1;subst q2
    exact ⟨j,Int.le_refl _,.nil,λ_ d=>by cases d⟩
 ·rw[if_neg o]
  cases i:(qF s t e.at_).open_ with
  | none=>exact QT g
  | some q=>
    obtain ⟨f,os⟩:=q
    simp only
    split
    ·have:=ZI k g i (c:=e.at_) (g.opn f os i).2.1
     exact ⟨this.1,this.2,λ_ _ q=>by cases q⟩
    ·rename_i r
     obtain ⟨k1,k2,k3,k4⟩:=g.opn f os i
     refine ⟨g.some i,g.of,λz y q=>?_⟩
     injection q with q;injection q with q1 q2;subst q1;subst q2
     refine ⟨k1,k2,List.pairwise_append.2 ⟨k3,by simp,λa v b l=>?_⟩,λx d=>?_⟩
     ·simp at l;subst l;exact (k4 a v).2
     ·rcases List.mem_append.1 d with d | d
      ·exact k4 x d
      ·simp at d;subst d;exact ⟨n r,Int.le_refl _⟩
theorem XF (i:zz s=true) (j:∀e,p e->0<=e.at_/\e.at_<=31449599) {w:Int}:∀(l:List Ev) (t:TellS) (m:Int),InvR s p t m->l.Pairwise (λa b=>a.at_<=b.at_)->(∀e∈l,QR s w e=true->(e.kind≠2->p e)/\m<=e.at_/\e.at_<=31449599)->m<=31449599->∃q,q<=31449599/\InvR s p (l.foldl (yr s w) t) q
 | [],t,m,h,_,_,o=>⟨m,o,h⟩
 | e::l,t,m,h,n,g,o=>by
   obtain ⟨k1,k2⟩:=List.pairwise_cons.1 n
   rw[List.foldl_cons]
   unfold yr
   split
   ·rename_i c
    have k:=g e (.head _) c
    exact XF i j l _ e.at_ (jHa i j h k.1 k.2.1) k2 (λx d f=>⟨(g x (.tail _ d) f).1,k1 x d,(g x (.tail _ d) f).2.2⟩) k.2.2
   ·exact XF i j l t m h k2 (λx d=>g x (.tail _ d)) o
end
theorem WU {s:Setup} {l:List Ev} {w:Int} (c:zz s=true):
  RiseTo (zR s l w).1 32054400/\∀g∈(zR s l w).1,∃e,(e∈l/\QR s w e=true/\e.kind≠2)/\Qv e g:=by
 obtain ⟨⟨j,o⟩,_⟩:=wi c
 have f:∀e,(e∈l/\QR s w e=true/\e.kind≠2)->0<=e.at_/\e.at_<=31449599:=λe d=>(Jl (QS (WS.1 d.2.1).2.2)).2.2.2.1
 obtain ⟨m,q,k⟩:=XF (s:=s) (w:=w) (p:=λe=>e∈l/\QR s w e=true/\e.kind≠2) c f (zC l) ⟨none,[],[]⟩ 0 ⟨⟨λ_ h=>(by cases h),.nil⟩,λ_ h=>(by cases h),λ_ _ h=>(by cases h)⟩ (y1a (xD l)) (λe d b=>by
  have:=(Jl (QS (WS.1 b).2.2)).2.2.2.1
  exact ⟨λn=>⟨QM.1 d,b,n⟩,by omega,by omega⟩) (by omega)
 have i:=K0 c f k (a:=32054400) (by omega)
 unfold zR
 rw[if_pos c]
 refine ⟨i.rise.mono ?_,i.of⟩
 exact kwa j o
def spS (g:Seg):Spn:=⟨g.from_,g.to_⟩
def Qwa (t:TellS) (x:Int):Prop:=Cov (t.segs.map spS) x
def opF (t:TellS):Option Ev:=t.open_.map (·.1)
structure EqT (a b:TellS):Prop where
 opn:opF a=opF b
 cov:∀x,Qwa a x↔Qwa b x
section
variable {s:Setup} {a b:TellS}
structure Sim (s:Setup) (p:Ev->Prop) (a b:TellS) (m:Int):Prop where
 ia:InvR s p a m
 ib:InvR s p b m
 eq:EqT (qF s a m) (qF s b m)
end
theorem Jm {p:Ev->Bool} (x:Ev):∀ {l:List Ev},Srt l->(ku x l).filter p=if p x then ku x (l.filter p) else l.filter p
 | [],_=>by
   simp only[ku,List.filter_cons,List.filter_nil]
 | y::l,h=>by
   have h':Srt ([y]++l):=h
   have e:=(jc.1 h').2.1
   rw[qi]
   cases b:ltE y x
   ·simp only[Bool.false_eq_true,if_false]
    rw[List.filter_cons]
    cases d:p x
    ·simp
    ·simp only[if_true]
     have a:=WM h b
     have:∀q:List Ev,(∀z∈q,ltE z x=false)->ku x q=x::q:=λq c=>by
      cases q with
      | nil=>rfl
      | cons z q=>rw[qi,c z (.head _)];rfl
     rw[this _ λz f=>a z (List.mem_filter.1 f).1]
   ·simp only[if_true]
    rw[List.filter_cons,Jm x e]
    rw[List.filter_cons]
    cases d:p x<;>cases g:p y<;>simp[qi,b]
theorem Qw (p:Ev->Bool):∀(l:List Ev),zC (l.filter p)=(zC l).filter p
 | []=>rfl
 | x::l=>by
   rw[List.filter_cons,show zC (x::l)=ku x (zC l) from rfl,Jm x (xD l), <-Qw p l]
   split
   ·rfl
   ·rfl
structure InvB (s:Setup) (t:TellS):Prop where
 seg:∀g∈t.segs,g.kind=0/\g.to_ - g.from_<=s.cap+s.unit
 opn:∀f os,t.open_=some (f,os)->os=[]/\f.kind=1/\0<=f.at_/\f.at_<=31449599
section
variable {s:Setup} {t:TellS}
end
theorem K1 {x y:Ev} (h:x.id≠y.id):ltE x y= !ltE y x:=by
 cases b:ltE x y<;>cases a:ltE y x<;>try rfl
 ·have:=(jr x y).1 b
  have:=(jr y x).1 a
  omega
 ·have:=(xv x y).1 b
  have:=(xv y x).1 a
  omega
theorem jIa {x y:Ev} (h:x.id≠y.id):∀(l:List Ev),ku x (ku y l)=ku y (ku x l)
 | []=>by
   have:=K1 h
   show ku x [y]=ku y [x]
   rw[qi,qi,this]
   cases ltE y x<;>rfl
 | z::l=>by
   have c:=K1 h
   rw[qi,qi]
   cases b:ltE z x<;>cases a:ltE z y<;>simp only[Bool.false_eq_true,if_false,if_true]<;>simp only[qi,b,a,Bool.false_eq_true,if_false,if_true,c]
   ·cases ltE y x<;>simp
   ·have e:ltE y x=false:=by
     refine (jr y x).2 λq=>?_
     have:=(jr z x).1 b
     have:=(xv z y).1 a
     omega
    simp[e]
   ·have e:ltE y x=true:=by
     refine (xv y x).2 ?_
     have:=(xv z x).1 b
     have:=(jr z y).1 a
     omega
    simp[e]
   ·rw[jIa h l]
def JJa (s:Setup) (g:Seg):Seg:=⟨qw g.from_ s.unit,qw g.to_ s.unit,g.kind,g.id,g.code⟩
def Qxa (s:Setup) (l:List Seg):List Seg:=(l.map (JJa s)).filter λg=>decide (g.from_<g.to_)
structure SimO (s:Setup) (a b:TellS):Prop where
 opn:a.open_=b.open_
 segs:b.segs=Qxa s a.segs
 os:∀f os,a.open_=some (f,os)->os=[]/\0<=f.at_/\f.at_<=31449599
section
variable {s:Setup} {a b:TellS}
end
structure FlagIn (done:List Ev) (t:TellS) (G:List (Ev × Int)):Prop where
 flags:t.flags=G.map λp=>⟨p.1.id,p.2⟩
 mem:∀p∈G,p.1∈done/\(p.1.kind=1↔(p.2=1∨p.2=2))
 nodup:(G.map (·.1.id)).Nodup
 opn:∀f os,t.open_=some (f,os)->f∈done/\f.kind=1/\∀p∈G,p.1.id≠f.id
 cnt:(done.countP λe=>e.kind==1)+(G.countP λp=>p.1.kind==2)=(done.countP λe=>e.kind==2)+(G.countP λp=>p.1.kind==1)+(if t.open_.isSome then 1 else 0)
section
variable {s:Setup} {t:TellS} {done:List Ev} {G:List (Ev × Int)}
end
theorem WV (x:Ev):∀(l:List Ev),(ku x l).Perm (x::l)
 | []=> .refl _
 | y::l=>by
   rw[qi]
   split
   ·exact ((WV x l).cons y).trans (.swap x y l)
   ·exact .refl _
theorem kE:∀(l:List Ev),(zC l).Perm l
 | []=> .refl _
 | x::l=>(WV x (zC l)).trans ((kE l).cons x)
end Go.Proofs.YtfmldcilgbbimaaGreat.Ax
