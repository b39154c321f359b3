/-
  Joined.
-/
import Derived.Test.YtigdlmpjijhpaaaGreatK20
set_option linter.unusedSimpArgs false
set_option linter.unusedVariables false
namespace Go.Proofs.YtigdlmpjijhpaaaGreat.Ax
def leS (a b:Spn):Prop:=a.from_<=b.from_
def jp (s:Spn):Spn:=⟨max s.from_ 0,min s.to_ 32054400⟩
def qP (l:List Spn):List Spn:=(l.map jp).filter λs=>decide (s.from_<s.to_)
def jO:Spn->List Spn->List Spn
 | c,[]=>[c]
 | c,s::r=>if s.from_<=c.to_ then jO ⟨c.from_,max c.to_ s.to_⟩ r else c::jO s r
def vO:List Spn->List Spn
 | []=>[]
 | s::r=>jO s r
def Qx (l:List Spn):List Spn:=l.mergeSort λa b=>decide (a.from_<=b.from_)
def zt (l:List Spn):List Spn:=vO (Qx (qP l))
def Cov (l:List Spn) (t:Int):Prop:=∃s∈l,s.from_<=t/\t<s.to_
structure PlainS (l:List Spn):Prop where
 pos:∀s∈l,s.from_<s.to_
 gap:l.Pairwise λa b=>a.to_<b.from_
theorem qw {x:Spn} {l:List Spn} {t:Int}:Cov (x::l) t↔(x.from_<=t/\t<x.to_)∨Cov l t:=by
 simp[Cov]
theorem ye {t:Int}:¬ Cov [] t:=λ⟨_,h,_⟩=>by cases h
theorem VY {a b:List Spn} {t:Int}:Cov (a++b) t↔Cov a t∨Cov b t:=by
 simp only[Cov,List.mem_append]
 constructor
 ·rintro ⟨s,h | h,k⟩
  ·exact .inl ⟨s,h,k⟩
  ·exact .inr ⟨s,h,k⟩
 ·rintro (⟨s,h,k⟩ | ⟨s,h,k⟩)
  ·exact ⟨s,.inl h,k⟩
  ·exact ⟨s,.inr h,k⟩
theorem PlainS.tail {x:Spn} {l:List Spn} (h:PlainS (x::l)):PlainS l:=⟨λs k=>h.pos s (.tail _ k),(List.pairwise_cons.1 h.gap).2⟩
theorem PlainS.above {x:Spn} {l:List Spn} (h:PlainS (x::l)) {t:Int} (k:Cov l t):x.to_<t:=by
 obtain ⟨s,a,b,_⟩:=k
 have:=(List.pairwise_cons.1 h.gap).1 s a
 omega
theorem PlainS.first {x:Spn} {l:List Spn} (h:PlainS (x::l)) {t:Int} (k:Cov (x::l) t):x.from_<=t:=by
 have a:=h.pos x (.head _)
 rcases qw.1 k with k | k
 ·exact k.1
 ·have:=h.above k;omega
theorem XF:∀ {a b:List Spn},PlainS a->PlainS b->(∀t,Cov a t↔Cov b t)->a=b
 | [],[],_,_,_=>rfl
 | [],y::b,_,d,h=>by
   have f:=d.pos y (.head _)
   exact absurd ((h y.from_).2 (qw.2 (.inl ⟨Int.le_refl _,f⟩))) ye
 | x::a,[],c,_,h=>by
   have f:=c.pos x (.head _)
   exact absurd ((h x.from_).1 (qw.2 (.inl ⟨Int.le_refl _,f⟩))) ye
 | x::a,y::b,c,d,h=>by
   have i:=c.pos x (.head _)
   have g:=d.pos y (.head _)
   have j:=d.first ((h x.from_).1 (qw.2 (.inl ⟨Int.le_refl _,i⟩)))
   have m:=c.first ((h y.from_).2 (qw.2 (.inl ⟨Int.le_refl _,g⟩)))
   have n:¬ x.to_<y.to_:=λk=>by
    have:=(h x.to_).2 (qw.2 (.inl ⟨by omega,k⟩))
    rcases qw.1 this with q | q
    ·omega
    ·have:=c.above q;omega
   have l:¬ y.to_<x.to_:=λk=>by
    have:=(h y.to_).1 (qw.2 (.inl ⟨by omega,k⟩))
    rcases qw.1 this with q | q
    ·omega
    ·have:=d.above q;omega
   have e:x=y:=by
    cases x;cases y
    simp only[Spn.mk.injEq] at*
    omega
   subst e
   refine congrArg _ (XF c.tail d.tail λt=>⟨λk=>?_,λk=>?_⟩)
   ·rcases qw.1 ((h t).1 (qw.2 (.inr k))) with q | q
    ·have:=c.above k;omega
    ·exact q
   ·rcases qw.1 ((h t).2 (qw.2 (.inr k))) with q | q
    ·have:=d.above k;omega
    ·exact q
theorem yf:∀ {c:Spn} {r:List Spn},c.from_<c.to_->(∀s∈r,s.from_<s.to_)->r.Pairwise leS->(∀s∈r,c.from_<=s.from_)->
  PlainS (jO c r)/\(∀s∈jO c r,c.from_<=s.from_)/\∀t,Cov (jO c r) t↔Cov (c::r) t
 | c,[],g,_,_,_=>by
   have e:jO c []=[c]:=by simp[jO]
   rw[e]
   exact ⟨⟨λs h=>by simp at h;subst h;exact g,by simp⟩,λs h=>by simp at h;subst h;exact Int.le_refl _,λt=>Iff.rfl⟩
 | c,s::r,g,l,n,o=>by
   have j:=l s (.head _)
   have f:∀q∈r,q.from_<q.to_:=λq h=>l q (.tail _ h)
   obtain ⟨b,d⟩:=List.pairwise_cons.1 n
   have m:=o s (.head _)
   unfold jO
   split
   ·rename_i i
    have a:=yf (c:=⟨c.from_,max c.to_ s.to_⟩) (r:=r) (by simp only;omega) f d (λq h=>by have:=b q h;simp only[leS] at this ⊢;omega)
    refine ⟨a.1,a.2.1,λt=>(a.2.2 t).trans ?_⟩
    rw[qw,qw,qw]
    simp only
    constructor
    ·rintro (k | k)
     ·by_cases p:t<c.to_
      ·exact .inl ⟨k.1,p⟩
      ·exact .inr (.inl ⟨by omega,by omega⟩)
     ·exact .inr (.inr k)
    ·rintro (k | k | k)
     ·exact .inl ⟨k.1,by omega⟩
     ·exact .inl ⟨by omega,by omega⟩
     ·exact .inr k
   ·rename_i i
    have a:=yf (c:=s) (r:=r) j f d b
    refine ⟨⟨λq h=>?_,List.pairwise_cons.2 ⟨λq h=>?_,a.1.gap⟩⟩,λq h=>?_,λt=>?_⟩
    ·rcases List.mem_cons.1 h with rfl | h
     ·exact g
     ·exact a.1.pos q h
    ·have:=a.2.1 q h;omega
    ·rcases List.mem_cons.1 h with rfl | h
     ·exact Int.le_refl _
     ·have:=a.2.1 q h;omega
    ·rw[qw,qw,a.2.2 t]
theorem vq {l:List Spn} (a:∀s∈l,s.from_<s.to_) (b:l.Pairwise leS):PlainS (vO l)/\∀t,Cov (vO l) t↔Cov l t:=by
 cases l with
 | nil=>exact ⟨⟨λ_ h=>(by cases h),List.Pairwise.nil⟩,λ_=>Iff.rfl⟩
 | cons s r=>
   have:=yf (a s (.head _)) (λq h=>a q (.tail _ h)) (List.pairwise_cons.1 b).2 (List.pairwise_cons.1 b).1
   exact ⟨this.1,this.2.2⟩
theorem xD (l:List Spn):(Qx l).Perm l:=List.mergeSort_perm l _
theorem yh (l:List Spn):(Qx l).Pairwise leS:=by
 have:=List.pairwise_mergeSort (le:=λa b:Spn=>decide (a.from_<=b.from_)) (λa b c d e=>by simp at *; omega) (λa b=>by simp;omega) l
 exact this.imp λh=>by simpa [leS] using h
theorem Qy {a b:List Spn} (h:a.Perm b) (t:Int):Cov a t↔Cov b t:=by
 simp only[Cov]
 exact ⟨λ⟨s,k,r⟩=>⟨s,h.mem_iff.1 k,r⟩,λ⟨s,k,r⟩=>⟨s,h.mem_iff.2 k,r⟩⟩
theorem Zl {l:List Spn}:∀s∈qP l,s.from_<s.to_:=λs h=>by
 simp only[qP,List.mem_filter,decide_eq_true_eq] at h
 exact h.2
theorem jXa {l m:List Spn} (a:m.Perm (qP l)) (d:m.Pairwise leS):vO m=zt l:=by
 have p1:∀s∈m,s.from_<s.to_:=λs h=>Zl s (a.mem_iff.1 h)
 have p2:∀s∈Qx (qP l),s.from_<s.to_:=λs h=>Zl s ((xD _).mem_iff.1 h)
 have c:=vq p1 d
 have b:=vq p2 (yh (qP l))
 refine XF c.1 b.1 λt=>?_
 rw[c.2,show zt l=vO (Qx (qP l)) from rfl,b.2,Qy a,Qy (xD (qP l))]
theorem qK (l:List Spn):PlainS (zt l):=(vq (λs h=>Zl s ((xD _).mem_iff.1 h)) (yh (qP l))).1
theorem qg (l:List Spn) (t:Int):Cov (zt l) t↔(0<=t/\t<32054400/\Cov l t):=by
 have d:=(vq (λs h=>Zl s ((xD _).mem_iff.1 h)) (yh (qP l))).2 t
 rw[show zt l=vO (Qx (qP l)) from rfl,d,Qy (xD _)]
 simp only[Cov,qP,List.mem_filter,List.mem_map,decide_eq_true_eq]
 constructor
 ·rintro ⟨s,⟨⟨x,a,rfl⟩,e⟩,c,b⟩
  simp only[jp] at c b
  exact ⟨by omega,by omega,x,a,by omega,by omega⟩
 ·rintro ⟨c,b,x,a,g,f⟩
  exact ⟨jp x,⟨⟨x,a,rfl⟩,by simp only[jp];omega⟩,by simp only[jp];omega,by simp only[jp];omega⟩
theorem zIa {a b:List Spn} (h:∀t,0<=t->t<32054400->(Cov a t↔Cov b t)):zt a=zt b:=
 XF (qK a) (qK b) λt=>by
  rw[qg,qg]
  constructor
  ·rintro ⟨c,d,e⟩;exact ⟨c,d,(h t c d).1 e⟩
  ·rintro ⟨c,d,e⟩;exact ⟨c,d,(h t c d).2 e⟩
def qf (l:List Spn):Int:=(l.map λs=>s.to_ - s.from_).sum
theorem XG {α:Type} {p:α->Bool}:∀ {l:List α},(∀x∈l,p x=true)->l.filter p=l
 | [],_=>rfl
 | x::l,h=>by rw[List.filter_cons,if_pos (h x (.head _)),XG λy k=>h y (.tail _ k)]
theorem jC {l:List Spn}:∀s∈zt l,0<=s.from_/\s.from_<s.to_/\s.to_<=32054400:=λs a=>by
 have b:=(qK l).pos s a
 have d:=(qg l s.from_).1 ⟨s,a,by omega,b⟩
 have c:=(qg l (s.to_ - 1)).1 ⟨s,a,by omega,by omega⟩
 omega
theorem ZP:∀(c:Spn) (r:List Spn),(jO c r).length<=r.length+1
 | _,[]=>by simp[jO]
 | c,s::r=>by
   unfold jO
   split
   ·have:=ZP ⟨c.from_,max c.to_ s.to_⟩ r;simp;omega
   ·have:=ZP s r;simp;omega
theorem zJa:∀(l:List Spn),(vO l).length<=l.length
 | []=>by simp[vO]
 | s::r=>by simpa [vO] using ZP s r
theorem Zm (l:List Spn):(qP l).length<=l.length:=by
 have:=List.length_filter_le (λs:Spn=>decide (s.from_<s.to_)) (l.map jp)
 simpa [qP] using this
theorem zq (l:List Spn):(zt l).length<=l.length:=by
 have a:=zJa (Qx (qP l))
 have b:=(xD (qP l)).length_eq
 have c:=Zm l
 unfold zt
 omega
end Go.Proofs.YtigdlmpjijhpaaaGreat.Ax
namespace Go.Proofs.YtigdlmpjijhpaaaGreat.Ax
open Go Go.Proofs
theorem yS {lo a x:Int} (h:wG lo a [x]=true):lo<=x/\x<=a:=by
 simp[wG,KA] at h
 omega
theorem wt {s:Setup} (h:zE s=true):(1<=s.unit/\s.unit<=3600)/\(60<=s.cap/\s.cap<=57600):=by
 simp only[zE,xT,Bool.and_eq_true] at h
 exact ⟨yS h.1.2.1.1.1.1.2,yS h.1.2.1.1.1.2⟩
def rqP (t u:Int):Int:=if t % u≥u - t % u then t / u+1 else t / u
theorem Qz {t u:Int} (m:1<=u) (c:u<=3600):qA t u=min (rqP (zO t 32054400) u*u) 32054400:=by
 have c0:0<=zO t 32054400:=by unfold zO;omega
 have d:zO t 32054400<=32054400:=by unfold zO;omega
 have k:=Int.emod_nonneg (zO t 32054400) (show u≠0 by omega)
 have j:=Int.emod_lt_of_pos (zO t 32054400) (show 0<u by omega)
 have l:0<=zO t 32054400 / u:=Int.ediv_nonneg c0 (by omega)
 have h:zO t 32054400 / u<=32054400:=Int.le_trans (Int.ediv_le_self _ c0) d
 have b:jX (zO t 32054400) u=(zO t 32054400 / u,zO t 32054400 % u):=by
  unfold jX
  rw[Int.tdiv_eq_ediv_of_nonneg c0,Int.tmod_eq_emod_of_nonneg c0,if_neg (by omega),zF (by unfold Fit;omega)]
 have a:Jq (zO t 32054400) u=(rqP (zO t 32054400) u,0):=by
  unfold Jq
  rw[if_neg (by omega),b]
  simp only
  rw[zF (n:=u - zO t 32054400 % u) (by unfold Fit;omega)]
  unfold rqP
  split
  ·rw[zF (by unfold Fit;omega)]
  ·rfl
 have f:0<=rqP (zO t 32054400) u:=by unfold rqP;split<;>omega
 have e:rqP (zO t 32054400) u<=32054401:=by unfold rqP;split<;>omega
 have g:rqP (zO t 32054400) u*u<=32054401*3600:=Int.mul_le_mul e c (by omega) (by omega)
 have i:0<=rqP (zO t 32054400) u*u:=Int.mul_nonneg f (by omega)
 unfold qA
 rw[if_neg (by omega),a]
 simp only
 rw[show min u 64108801=u by omega,zF (by unfold Fit;omega)]
theorem wAa {a b u:Int} (i:1<=u) (h:a<=b):rqP a u<=rqP b u:=by
 have g:a / u<=b / u:=Int.ediv_le_ediv (by omega) h
 have c:=Int.emod_add_mul_ediv a u
 have f:=Int.emod_add_mul_ediv b u
 have:=Int.emod_nonneg b (show u≠0 by omega)
 have:=Int.emod_lt_of_pos a (show 0<u by omega)
 unfold rqP
 by_cases d:a / u=b / u
 ·rw[d] at c⊢
  have e:a % u<=b % u:=by omega
  split<;>split<;>omega
 ·split<;>split<;>omega
theorem ZQ {a b u:Int} (c:1<=u) (d:u<=3600) (h:a<=b):qA a u<=qA b u:=by
 rw[Qz c d,Qz c d]
 have e:zO a 32054400<=zO b 32054400:=by unfold zO;omega
 have:=Int.mul_le_mul_of_nonneg_right (wAa c e) (show 0<=u by omega)
 omega
theorem VZ {a u:Int} (b:1<=u) (c:u<=3600):0<=qA a u:=by
 rw[Qz b c]
 have c0:0<=zO a 32054400:=by unfold zO;omega
 have e:0<=zO a 32054400 / u:=Int.ediv_nonneg c0 (by omega)
 have d:0<=rqP (zO a 32054400) u:=by unfold rqP;split<;>omega
 have:=Int.mul_nonneg d (show 0<=u by omega)
 omega
theorem kPa {a u:Int} (b:1<=u) (c:u<=3600):qA a u<=32054400:=by
 rw[Qz b c]
 omega
theorem zKa {k:Int} (h:QQ k=true):1<=k/\k<=7:=by
 simp[QQ] at h
 omega
theorem QW {s:Setup} {e:Ev} (h:yR s e=true):qu e=true:=by
 unfold yR at h
 cases a:qu e
 ·rw[a] at h;simp at h
 ·rfl
theorem Jr {e:Ev} (h:qu e=true):(1<=e.kind/\e.kind<=7)/\(0<=e.id/\e.id<=100000)/\0<=e.worker/\(0<=e.at_/\e.at_<=31449599)/\(e.kind≠4->e.code=0):=by
 simp only[qu,Bool.and_eq_true,Bool.not_not] at h
 obtain ⟨f,c,a,d,b⟩:=h
 refine ⟨zKa f,?_,?_,?_,λg=>?_⟩
 ·simp[wX] at c;exact c
 ·simp at a;exact a
 ·simp[wX] at d;exact d
 ·unfold jB at b
  by_cases a:e.kind=3
  ·simp[a] at b;omega
  ·simp[a,g] at b;omega
theorem W4 {s:Setup} {w:Int} {e:Ev}:ZO s w e=true↔e.worker=w/\e.kind≠7/\yR s e=true:=by
 simp[ZO,and_assoc]
theorem Zqa {l:List Ev} (h:Srt l):l.Pairwise λa b=>a.at_<=b.at_:=by
 induction l with
 | nil=>exact .nil
 | cons x l e=>
   have h':Srt ([x]++l):=h
   obtain ⟨_,c,d⟩:=jj.1 h'
   refine List.pairwise_cons.2 ⟨λy f=>?_,e c⟩
   have:=d x (.head _) y f
   have:=(jw y x).1 this
   omega
structure RiseTo (l:List Seg) (hi:Int):Prop where
 each:∀g∈l,0<=g.from_/\g.from_<g.to_/\g.to_<=hi
 gap:l.Pairwise λa b=>a.to_<=b.from_
theorem RiseTo.mono {l:List Seg} {a b:Int} (h:RiseTo l a) (k:a<=b):RiseTo l b:=⟨λg c=>by have:=h.each g c;omega,h.gap⟩
theorem RiseTo.snoc {l:List Seg} {b:Int} {g:Seg} (h:RiseTo l b) (h0:0<=b) (e:g.from_=b) (d:g.from_<g.to_):RiseTo (l++[g]) g.to_:=by
 refine ⟨λx a=>?_,List.pairwise_append.2 ⟨h.gap,by simp,λx a y c=>?_⟩⟩
 ·rcases List.mem_append.1 a with a | a
  ·have:=h.each x a;omega
  ·simp at a;subst a;omega
 ·simp at c;subst c
  have:=h.each x a
  omega
def QA (e:Ev) (g:Seg):Prop:=g.id=e.id/\g.kind=Zy e.kind/\g.code=e.code
theorem XH {t:TellS} {b c:Int} {e:Ev}:(vh t b c e).segs=if b<c then t.segs++[⟨b,c,Zy e.kind,e.id,e.code⟩] else t.segs:=by
 unfold vh
 split<;>rfl
theorem XI {t:TellS} {b c:Int} {e:Ev} (h:RiseTo t.segs b) (h0:0<=b) (a:b<=c):RiseTo (vh t b c e).segs c:=by
 rw[XH]
 split
 ·exact h.snoc (g:=⟨b,c,Zy e.kind,e.id,e.code⟩) h0 rfl (by simp only;omega)
 ·exact h.mono a
theorem W5 {t:TellS} {b c:Int} {e:Ev} {p:Ev->Prop} (h:∀g∈t.segs,∃e,p e/\QA e g) (d:p e):∀g∈(vh t b c e).segs,∃e,p e/\QA e g:=λg a=>by
 rw[XH] at a
 split at a
 ·rcases List.mem_append.1 a with a | a
  ·exact h g a
  ·simp at a;subst a;exact ⟨e,d,rfl,rfl,rfl⟩
 ·exact h g a
theorem XJ {first last:Int} {p:Ev->Prop} (m:0<=first):∀(os:List Ev) (z:Int × Ev × TellS),first<=z.1->z.1<=max first last->RiseTo z.2.2.segs z.1->(∀g∈z.2.2.segs,∃e,p e/\QA e g)->p z.2.1->
  os.Pairwise (λa b=>a.at_<=b.at_)->(∀x∈os,p x/\z.1<=toP first last x.at_)->
  first<=(os.foldl (vi first last) z).1/\(os.foldl (vi first last) z).1<=max first last/\RiseTo (os.foldl (vi first last) z).2.2.segs (os.foldl (vi first last) z).1/\(∀g∈(os.foldl (vi first last) z).2.2.segs,∃e,p e/\QA e g)/\p (os.foldl (vi first last) z).2.1
 | [],z,h,i,c,f,d,_,_=>⟨h,i,c,f,d⟩
 | x::os,z,h,i,c,f,d,n,k=>by
   obtain ⟨k1,k2⟩:=List.pairwise_cons.1 n
   have j:=k x (.head _)
   rw[List.foldl_cons]
   refine XJ m os (vi first last z x) ?_ ?_ ?_ ?_ j.1 k2 λy l=>⟨(k y (.tail _ l)).1,?_⟩
   ·simp only[vi,toP];omega
   ·simp only[vi,toP];omega
   ·exact XI c (by omega) j.2
   ·exact W5 f d
   ·have:=k1 y l
    simp only[vi,toP]
    omega
theorem zLa {first last:Int} {p:Ev->Prop} {t:TellS} {e:Ev} {os:List Ev} (f:0<=first) (c:RiseTo t.segs first) (h:∀g∈t.segs,∃e,p e/\QA e g) (d:p e) (l:os.Pairwise λa b=>a.at_<=b.at_) (k:∀x∈os,p x):
  RiseTo (xM first last t e os).segs (max first last)/\∀g∈(xM first last t e os).segs,∃e,p e/\QA e g:=by
 have:=XJ (last:=last) f os (first,e,t) (Int.le_refl _) (by simp only;omega) c h d l λx i=>⟨k x i,by simp only[toP];omega⟩
 obtain ⟨k1,k2,k3,k4,k5⟩:=this
 have j:toP first last last=max first last:=by unfold toP;omega
 unfold xM xh
 rw[j]
 exact ⟨XI k3 (by omega) k2,W5 k4 k5⟩
structure InvR (s:Setup) (p:Ev->Prop) (t:TellS) (m:Int):Prop where
 rise:RiseTo t.segs (qA (match t.open_ with | none=>m | some (f,_)=>f.at_) s.unit)
 of:∀g∈t.segs,∃e,p e/\QA e g
 opn:∀f os,t.open_=some (f,os)->p f/\f.at_<=m/\os.Pairwise (λa b=>a.at_<=b.at_)/\∀x∈os,p x/\x.at_<=m
section
variable {s:Setup} {p:Ev->Prop} {t:TellS} {m:Int}
theorem InvR.none (h:InvR s p t m) (a:t.open_=none):RiseTo t.segs (qA m s.unit):=by
 have:=h.rise;rw[a] at this;exact this
theorem InvR.some {f:Ev} {os:List Ev} (h:InvR s p t m) (a:t.open_=some (f,os)):RiseTo t.segs (qA f.at_ s.unit):=by
 have:=h.rise;rw[a] at this;exact this
theorem ZR (j:zE s=true) {f:Ev} {os:List Ev} (h:InvR s p t m) (d:t.open_=some (f,os)) {c:Int} (i:f.at_<=c):
  RiseTo (vN s t f os c).segs (qA c s.unit)/\∀g∈(vN s t f os c).segs,∃e,p e/\QA e g:=by
 obtain ⟨⟨a,b⟩,_⟩:=wt j
 obtain ⟨k1,k2,k3,k4⟩:=h.opn f os d
 have:=zLa (last:=qA c s.unit) (VZ a b) (h.some d) h.of k1 k3 λx k=>(k4 x k).1
 have l:=ZQ a b i
 rw[show max (qA f.at_ s.unit) (qA c s.unit)=qA c s.unit by omega] at this
 exact this
theorem QX {e:Ev} {k:Int} (h:InvR s p t m):InvR s p (xL t e k) m:=⟨h.rise,h.of,h.opn⟩
theorem K6 (i:zE s=true) (n:∀e,p e->0<=e.at_/\e.at_<=31449599) (h:InvR s p t m) {a:Int} (o:m<=a):InvR s p (qO s t a) a:=by
 obtain ⟨⟨j,k⟩,v,w⟩:=wt i
 unfold qO
 cases b:t.open_ with
 | none=>
   simp only
   refine ⟨?_,h.of,λf os q=>by rw[b] at q;cases q⟩
   rw[b]
   exact (h.none b).mono (ZQ j k o)
 | some q=>
   obtain ⟨f,os⟩:=q
   obtain ⟨k1,k2,k3,k4⟩:=h.opn f os b
   have u:=n f k1
   simp only
   split
   ·rename_i g
    rw[zF (by unfold Fit;omega)] at g⊢
    have:=ZR (t:=xL t f 1) i (QX h) b (c:=f.at_+s.cap) (by omega)
    refine ⟨?_,this.2,λ_ _ q=>by cases q⟩
    exact this.1.mono (ZQ j k (show f.at_+s.cap<=a by omega))
   ·refine ⟨?_,h.of,λr d q=>?_⟩
    ·rw[b];exact h.some b
    ·obtain ⟨k1,k2,k3,k4⟩:=h.opn r d q
     exact ⟨k1,by omega,k3,λx l=>⟨(k4 x l).1,by have:=(k4 x l).2;omega⟩⟩
theorem jYa (k:zE s=true) (u:∀e,p e->0<=e.at_/\e.at_<=31449599) (h:InvR s p t m) {e:Ev} (o:e.kind≠2->p e) (w:m<=e.at_):InvR s p (Zz s t e) e.at_:=by
 have d:=K6 k u h w
 unfold Zz
 by_cases l:e.kind=1
 ·rw[if_pos l]
  have j:=o (by omega)
  cases i:(qO s t e.at_).open_ with
  | none=>
    simp only
    refine ⟨d.none i,d.of,λf os q=>?_⟩
    injection q with q;injection q with q1 q2;subst q1;subst q2
    exact ⟨j,Int.le_refl _,.nil,λ_ g=>by cases g⟩
  | some q=>
    obtain ⟨f,os⟩:=q
    simp only
    have:=ZR (t:=xL (qO s t e.at_) f 2) k (QX d) i (c:=e.at_) (d.opn f os i).2.1
    refine ⟨this.1,this.2,λf os q=>?_⟩
    injection q with q;injection q with q1 q2;subst q1;subst q2
    exact ⟨j,Int.le_refl _,.nil,λ_ g=>by cases g⟩
 ·rw[if_neg l]
  cases i:(qO s t e.at_).open_ with
  | none=>exact QX d
  | some q=>
    obtain ⟨f,os⟩:=q
    simp only
    split
    ·have:=ZR k d i (c:=e.at_) (d.opn f os i).2.1
     exact ⟨this.1,this.2,λ_ _ q=>by cases q⟩
    ·rename_i v
     obtain ⟨k1,k2,k3,k4⟩:=d.opn f os i
     refine ⟨d.some i,d.of,λz r q=>?_⟩
     injection q with q;injection q with q1 q2;subst q1;subst q2
     refine ⟨k1,k2,List.pairwise_append.2 ⟨k3,by simp,λa y b n=>?_⟩,λx g=>?_⟩
     ·simp at n;subst n;exact (k4 a y).2
     ·rcases List.mem_append.1 g with g | g
      ·exact k4 x g
      ·simp at g;subst g;exact ⟨o v,Int.le_refl _⟩
theorem XK (k:zE s=true) (i:∀e,p e->0<=e.at_/\e.at_<=31449599) {w:Int}:∀(l:List Ev) (t:TellS) (m:Int),InvR s p t m->l.Pairwise (λa b=>a.at_<=b.at_)->(∀e∈l,ZO s w e=true->(e.kind≠2->p e)/\m<=e.at_/\e.at_<=31449599)->m<=31449599->∃q,q<=31449599/\InvR s p (l.foldl (wI s w) t) q
 | [],t,m,h,_,_,o=>⟨m,o,h⟩
 | e::l,t,m,h,j,g,o=>by
   obtain ⟨k1,k2⟩:=List.pairwise_cons.1 j
   rw[List.foldl_cons]
   unfold wI
   split
   ·rename_i d
    have n:=g e (.head _) d
    exact XK k i l _ e.at_ (jYa k i h n.1 n.2.1) k2 (λx f c=>⟨(g x (.tail _ f) c).1,k1 x f,(g x (.tail _ f) c).2.2⟩) n.2.2
   ·exact XK k i l t m h k2 (λx f=>g x (.tail _ f)) o
end
theorem W6 {s:Setup} {l:List Ev} {w:Int} (c:zE s=true):
  RiseTo (zR s l w).1 32054400/\∀g∈(zR s l w).1,∃e,(e∈l/\ZO s w e=true/\e.kind≠2)/\QA e g:=by
 obtain ⟨⟨j,n⟩,_⟩:=wt c
 have f:∀e,(e∈l/\ZO s w e=true/\e.kind≠2)->0<=e.at_/\e.at_<=31449599:=λe d=>(Jr (QW (W4.1 d.2.1).2.2)).2.2.2.1
 obtain ⟨m,q,k⟩:=XK (s:=s) (w:=w) (p:=λe=>e∈l/\ZO s w e=true/\e.kind≠2) c f (zx l) ⟨none,[],[]⟩ 0 ⟨⟨λ_ h=>(by cases h),.nil⟩,λ_ h=>(by cases h),λ_ _ h=>(by cases h)⟩ (Zqa (xn l)) (λe d b=>by
  have:=(Jr (QW (W4.1 b).2.2)).2.2.2.1
  exact ⟨λo=>⟨QR.1 d,b,o⟩,by omega,by omega⟩) (by omega)
 have i:=K6 c f k (a:=32054400) (by omega)
 unfold zR
 rw[if_pos c]
 refine ⟨i.rise.mono ?_,i.of⟩
 exact kPa j n
def spS (g:Seg):Spn:=⟨g.from_,g.to_⟩
def QYa (t:TellS) (x:Int):Prop:=Cov (t.segs.map spS) x
def opF (t:TellS):Option Ev:=t.open_.map (·.1)
structure EqT (a b:TellS):Prop where
 opn:opF a=opF b
 cov:∀x,QYa a x↔QYa b x
section
variable {s:Setup} {a b:TellS}
structure Sim (s:Setup) (p:Ev->Prop) (a b:TellS) (m:Int):Prop where
 ia:InvR s p a m
 ib:InvR s p b m
 eq:EqT (qO s a m) (qO s b m)
end
theorem Js {p:Ev->Bool} (x:Ev):∀ {l:List Ev},Srt l->(xY x l).filter p=if p x then xY x (l.filter p) else l.filter p
 | [],_=>by
   simp only[xY,List.filter_cons,List.filter_nil]
 | y::l,h=>by
   have h':Srt ([y]++l):=h
   have f:=(jj.1 h').2.1
   rw[qp]
   cases b:ltE y x
   ·simp only[Bool.false_eq_true,if_false]
    rw[List.filter_cons]
    cases d:p x
    ·simp
    ·simp only[if_true]
     have a:=WW h b
     have:∀q:List Ev,(∀z∈q,ltE z x=false)->xY x q=x::q:=λq e=>by
      cases q with
      | nil=>rfl
      | cons z q=>rw[qp,e z (.head _)];rfl
     rw[this _ λz c=>a z (List.mem_filter.1 c).1]
   ·simp only[if_true]
    rw[List.filter_cons,Js x f]
    rw[List.filter_cons]
    cases d:p x<;>cases g:p y<;>simp[qp,b]
theorem yi (p:Ev->Bool):∀(l:List Ev),zx (l.filter p)=(zx l).filter p
 | []=>rfl
 | x::l=>by
   rw[List.filter_cons,show zx (x::l)=xY x (zx l) from rfl,Js x (xn l), <-yi p l]
   split
   ·rfl
   ·rfl
structure InvB (s:Setup) (t:TellS):Prop where
 seg:∀g∈t.segs,g.kind=0/\g.to_ - g.from_<=s.cap+s.unit
 opn:∀f os,t.open_=some (f,os)->os=[]/\f.kind=1/\0<=f.at_/\f.at_<=31449599
section
variable {s:Setup} {t:TellS}
end
theorem K7 {x y:Ev} (h:x.id≠y.id):ltE x y= !ltE y x:=by
 cases a:ltE x y<;>cases b:ltE y x<;>try rfl
 ·have:=(jw x y).1 a
  have:=(jw y x).1 b
  omega
 ·have:=(xA x y).1 a
  have:=(xA y x).1 b
  omega
theorem jZa {x y:Ev} (h:x.id≠y.id):∀(l:List Ev),xY x (xY y l)=xY y (xY x l)
 | []=>by
   have:=K7 h
   show xY x [y]=xY y [x]
   rw[qp,qp,this]
   cases ltE y x<;>rfl
 | z::l=>by
   have c:=K7 h
   rw[qp,qp]
   cases a:ltE z x<;>cases b:ltE z y<;>simp only[Bool.false_eq_true,if_false,if_true]<;>simp only[qp,a,b,Bool.false_eq_true,if_false,if_true,c]
   ·cases ltE y x<;>simp
   ·have e:ltE y x=false:=by
     refine (jw y x).2 λq=>?_
     have:=(jw z x).1 a
     have:=(xA z y).1 b
     omega
    simp[e]
   ·have e:ltE y x=true:=by
     refine (xA y x).2 ?_
     have:=(xA z x).1 a
     have:=(jw z y).1 b
     omega
    simp[e]
   ·rw[jZa h l]
def Xda (s:Setup) (g:Seg):Seg:=⟨qA g.from_ s.unit,qA g.to_ s.unit,g.kind,g.id,g.code⟩
def QZa (s:Setup) (l:List Seg):List Seg:=(l.map (Xda s)).filter λg=>decide (g.from_<g.to_)
structure SimO (s:Setup) (a b:TellS):Prop where
 opn:a.open_=b.open_
 segs:b.segs=QZa s a.segs
 os:∀f os,a.open_=some (f,os)->os=[]/\0<=f.at_/\f.at_<=31449599
section
variable {s:Setup} {a b:TellS}
end
structure FlagIn (done:List Ev) (t:TellS) (G:List (Ev × Int)):Prop where
 flags:t.flags=G.map λp=>⟨p.1.id,p.2⟩
 mem:∀p∈G,p.1∈done/\(p.1.kind=1↔(p.2=1∨p.2=2))
 nodup:(G.map (·.1.id)).Nodup
 opn:∀f os,t.open_=some (f,os)->f∈done/\f.kind=1/\∀p∈G,p.1.id≠f.id
 cnt:(done.countP λe=>e.kind==1)+(G.countP λp=>p.1.kind==2)=(done.countP λe=>e.kind==2)+(G.countP λp=>p.1.kind==1)+(if t.open_.isSome then 1 else 0)
section
variable {s:Setup} {t:TellS} {done:List Ev} {G:List (Ev × Int)}
end
theorem W7 (x:Ev):∀(l:List Ev),(xY x l).Perm (x::l)
 | []=> .refl _
 | y::l=>by
   rw[qp]
   split
   ·exact ((W7 x l).cons y).trans (.swap x y l)
   ·exact .refl _
theorem kK:∀(l:List Ev),(zx l).Perm l
 | []=> .refl _
 | x::l=>(W7 x (zx l)).trans ((kK l).cons x)
end Go.Proofs.YtigdlmpjijhpaaaGreat.Ax
