/-
  Joined.
-/
import Derived.Test.YtfmldcilgbbimaaGreatK20
set_option linter.unusedSimpArgs false
set_option linter.unusedVariables false
namespace Go.Proofs.YtfmldcilgbbimaaGreat.Ax
def leS (a b:Spn):Prop:=a.from_<=b.from_
def jI (s:Spn):Spn:=⟨max s.from_ 0,min s.to_ 32054400⟩
def jb (l:List Spn):List Spn:=(l.map jI).filter λs=>decide (s.from_<s.to_)
def xl:Spn->List Spn->List Spn
 | c,[]=>[c]
 | c,s::r=>if s.from_<=c.to_ then xl ⟨c.from_,max c.to_ s.to_⟩ r else c::xl s r
def wL:List Spn->List Spn
 | []=>[]
 | s::r=>xl s r
def Xd (l:List Spn):List Spn:=l.mergeSort λa b=>decide (a.from_<=b.from_)
def zE (l:List Spn):List Spn:=wL (Xd (jb l))
def Cov (l:List Spn) (t:Int):Prop:=∃s∈l,s.from_<=t/\t<s.to_
structure PlainS (l:List Spn):Prop where
 pos:∀s∈l,s.from_<s.to_
 gap:l.Pairwise λa b=>a.to_<b.from_
theorem qI {x:Spn} {l:List Spn} {t:Int}:Cov (x::l) t↔(x.from_<=t/\t<x.to_)∨Cov l t:=by
 simp[Cov]
theorem Zm {t:Int}:¬ Cov [] t:=λ⟨_,h,_⟩=>by cases h
theorem zBa {a b:List Spn} {t:Int}:Cov (a++b) t↔Cov a t∨Cov b t:=by
 simp only[Cov,List.mem_append]
 constructor
 ·rintro ⟨s,h | h,k⟩
  ·exact .inl ⟨s,h,k⟩
  ·exact .inr ⟨s,h,k⟩
 ·rintro (⟨s,h,k⟩ | ⟨s,h,k⟩)
  ·exact ⟨s,.inl h,k⟩
  ·exact ⟨s,.inr h,k⟩
theorem PlainS.tail {x:Spn} {l:List Spn} (h:PlainS (x::l)):PlainS l:=⟨λs k=>h.pos s (.tail _ k),(List.pairwise_cons.1 h.gap).2⟩
theorem PlainS.above {x:Spn} {l:List Spn} (h:PlainS (x::l)) {t:Int} (k:Cov l t):x.to_<t:=by
 obtain ⟨s,a,b,_⟩:=k
 have:=(List.pairwise_cons.1 h.gap).1 s a
 omega
theorem PlainS.first {x:Spn} {l:List Spn} (h:PlainS (x::l)) {t:Int} (k:Cov (x::l) t):x.from_<=t:=by
 have a:=h.pos x (.head _)
 rcases qI.1 k with k | k
 ·exact k.1
 ·have:=h.above k;omega
theorem VQ:∀ {a b:List Spn},PlainS a->PlainS b->(∀t,Cov a t↔Cov b t)->a=b
 | [],[],_,_,_=>rfl
 | [],y::b,_,d,h=>by
   have e:=d.pos y (.head _)
   exact absurd ((h y.from_).2 (qI.2 (.inl ⟨Int.le_refl _,e⟩))) Zm
 | x::a,[],c,_,h=>by
   have e:=c.pos x (.head _)
   exact absurd ((h x.from_).1 (qI.2 (.inl ⟨Int.le_refl _,e⟩))) Zm
 | x::a,y::b,c,d,h=>by
   have g:=c.pos x (.head _)
   have i:=d.pos y (.head _)
   have j:=d.first ((h x.from_).1 (qI.2 (.inl ⟨Int.le_refl _,g⟩)))
   have l:=c.first ((h y.from_).2 (qI.2 (.inl ⟨Int.le_refl _,i⟩)))
   have m:¬ x.to_<y.to_:=λk=>by
    have:=(h x.to_).2 (qI.2 (.inl ⟨by omega,k⟩))
    rcases qI.1 this with q | q
    ·omega
    ·have:=c.above q;omega
   have n:¬ y.to_<x.to_:=λk=>by
    have:=(h y.to_).1 (qI.2 (.inl ⟨by omega,k⟩))
    rcases qI.1 this with q | q
    ·omega
    ·have:=d.above q;omega
   have f:x=y:=by
    cases x;cases y
    simp only[Spn.mk.injEq] at*
    omega
   subst f
   refine congrArg _ (VQ c.tail d.tail λt=>⟨λk=>?_,λk=>?_⟩)
   ·rcases qI.1 ((h t).1 (qI.2 (.inr k))) with q | q
    ·have:=c.above k;omega
    ·exact q
   ·rcases qI.1 ((h t).2 (qI.2 (.inr k))) with q | q
    ·have:=d.above k;omega
    ·exact q
theorem Zn:∀ {c:Spn} {r:List Spn},c.from_<c.to_->(∀s∈r,s.from_<s.to_)->r.Pairwise leS->(∀s∈r,c.from_<=s.from_)->
  PlainS (xl c r)/\(∀s∈xl c r,c.from_<=s.from_)/\∀t,Cov (xl c r) t↔Cov (c::r) t
 | c,[],j,_,_,_=>by
   have e:xl c []=[c]:=by simp[xl]
   rw[e]
   exact ⟨⟨λs h=>by simp at h;subst h;exact j,by simp⟩,λs h=>by simp at h;subst h;exact Int.le_refl _,λt=>Iff.rfl⟩
 | c,s::r,j,l,p,m=>by
   have g:=l s (.head _)
   have d:∀q∈r,q.from_<q.to_:=λq h=>l q (.tail _ h)
   obtain ⟨b,f⟩:=List.pairwise_cons.1 p
   have o:=m s (.head _)
   unfold xl
   split
   ·rename_i i
    have a:=Zn (c:=⟨c.from_,max c.to_ s.to_⟩) (r:=r) (by simp only;omega) d f (λq h=>by have:=b q h;simp only[leS] at this ⊢;omega)
    refine ⟨a.1,a.2.1,λt=>(a.2.2 t).trans ?_⟩
    rw[qI,qI,qI]
    simp only
    constructor
    ·rintro (k | k)
     ·by_cases n:t<c.to_
      ·exact .inl ⟨k.1,n⟩
      ·exact .inr (.inl ⟨by omega,by omega⟩)
     ·exact .inr (.inr k)
    ·rintro (k | k | k)
     ·exact .inl ⟨k.1,by omega⟩
     ·exact .inl ⟨by omega,by omega⟩
     ·exact .inr k
   ·rename_i i
    have a:=Zn (c:=s) (r:=r) g d f b
    refine ⟨⟨λq h=>?_,List.pairwise_cons.2 ⟨λq h=>?_,a.1.gap⟩⟩,λq h=>?_,λt=>?_⟩
    ·rcases List.mem_cons.1 h with rfl | h
     ·exact j
     ·exact a.1.pos q h
    ·have:=a.2.1 q h;omega
    ·rcases List.mem_cons.1 h with rfl | h
     ·exact Int.le_refl _
     ·have:=a.2.1 q h;omega
    ·rw[qI,qI,a.2.2 t]
theorem wv {l:List Spn} (a:∀s∈l,s.from_<s.to_) (b:l.Pairwise leS):PlainS (wL l)/\∀t,Cov (wL l) t↔Cov l t:=by
 cases l with
 | nil=>exact ⟨⟨λ_ h=>(by cases h),List.Pairwise.nil⟩,λ_=>Iff.rfl⟩
 | cons s r=>
   have:=Zn (a s (.head _)) (λq h=>a q (.tail _ h)) (List.pairwise_cons.1 b).2 (List.pairwise_cons.1 b).1
   exact ⟨this.1,this.2.2⟩
theorem kJ (l:List Spn):(Xd l).Perm l:=List.mergeSort_perm l _
theorem Zo (l:List Spn):(Xd l).Pairwise leS:=by
 have:=List.pairwise_mergeSort (le:=λa b:Spn=>decide (a.from_<=b.from_)) (λa b c d e=>by simp at *; omega) (λa b=>by simp;omega) l
 exact this.imp λh=>by simpa [leS] using h
theorem Xe {a b:List Spn} (h:a.Perm b) (t:Int):Cov a t↔Cov b t:=by
 simp only[Cov]
 exact ⟨λ⟨s,k,r⟩=>⟨s,h.mem_iff.1 k,r⟩,λ⟨s,k,r⟩=>⟨s,h.mem_iff.2 k,r⟩⟩
theorem QP {l:List Spn}:∀s∈jb l,s.from_<s.to_:=λs h=>by
 simp only[jb,List.mem_filter,decide_eq_true_eq] at h
 exact h.2
theorem wia {l m:List Spn} (a:m.Perm (jb l)) (d:m.Pairwise leS):wL m=zE l:=by
 have p1:∀s∈m,s.from_<s.to_:=λs h=>QP s (a.mem_iff.1 h)
 have p2:∀s∈Xd (jb l),s.from_<s.to_:=λs h=>QP s ((kJ _).mem_iff.1 h)
 have b:=wv p1 d
 have c:=wv p2 (Zo (jb l))
 refine VQ b.1 c.1 λt=>?_
 rw[b.2,show zE l=wL (Xd (jb l)) from rfl,c.2,Xe a,Xe (kJ (jb l))]
theorem xU (l:List Spn):PlainS (zE l):=(wv (λs h=>QP s ((kJ _).mem_iff.1 h)) (Zo (jb l))).1
theorem qu (l:List Spn) (t:Int):Cov (zE l) t↔(0<=t/\t<32054400/\Cov l t):=by
 have d:=(wv (λs h=>QP s ((kJ _).mem_iff.1 h)) (Zo (jb l))).2 t
 rw[show zE l=wL (Xd (jb l)) from rfl,d,Xe (kJ _)]
 simp only[Cov,jb,List.mem_filter,List.mem_map,decide_eq_true_eq]
 constructor
 ·rintro ⟨s,⟨⟨x,a,rfl⟩,g⟩,b,c⟩
  simp only[jI] at b c
  exact ⟨by omega,by omega,x,a,by omega,by omega⟩
 ·rintro ⟨b,c,x,a,f,e⟩
  exact ⟨jI x,⟨⟨x,a,rfl⟩,by simp only[jI];omega⟩,by simp only[jI];omega,by simp only[jI];omega⟩
theorem VR {a b:List Spn} (h:∀t,0<=t->t<32054400->(Cov a t↔Cov b t)):zE a=zE b:=
 VQ (xU a) (xU b) λt=>by
  rw[qu,qu]
  constructor
  ·rintro ⟨c,d,e⟩;exact ⟨c,d,(h t c d).1 e⟩
  ·rintro ⟨c,d,e⟩;exact ⟨c,d,(h t c d).2 e⟩
def qZ (l:List Spn):Int:=(l.map λs=>s.to_ - s.from_).sum
theorem Zp {α:Type} {p:α->Bool}:∀ {l:List α},(∀x∈l,p x=true)->l.filter p=l
 | [],_=>rfl
 | x::l,h=>by rw[List.filter_cons,if_pos (h x (.head _)),Zp λy k=>h y (.tail _ k)]
theorem jZ {l:List Spn}:∀s∈zE l,0<=s.from_/\s.from_<s.to_/\s.to_<=32054400:=λs a=>by
 have b:=(xU l).pos s a
 have c:=(qu l s.from_).1 ⟨s,a,by omega,b⟩
 have d:=(qu l (s.to_ - 1)).1 ⟨s,a,by omega,by omega⟩
 omega
theorem Jq:∀(c:Spn) (r:List Spn),(xl c r).length<=r.length+1
 | _,[]=>by simp[xl]
 | c,s::r=>by
   unfold xl
   split
   ·have:=Jq ⟨c.from_,max c.to_ s.to_⟩ r;simp;omega
   ·have:=Jq s r;simp;omega
theorem xJa:∀(l:List Spn),(wL l).length<=l.length
 | []=>by simp[wL]
 | s::r=>by simpa [wL] using Jq s r
theorem QQ (l:List Spn):(jb l).length<=l.length:=by
 have:=List.length_filter_le (λs:Spn=>decide (s.from_<s.to_)) (l.map jI)
 simpa [jb] using this
theorem zy (l:List Spn):(zE l).length<=l.length:=by
 have a:=xJa (Xd (jb l))
 have b:=(kJ (jb l)).length_eq
 have c:=QQ l
 unfold zE
 omega
end Go.Proofs.YtfmldcilgbbimaaGreat.Ax
namespace Go.Proofs.YtfmldcilgbbimaaGreat.Ax
open Go Go.Proofs
theorem Qa {lo a x:Int} (h:yK lo a [x]=true):lo<=x/\x<=a:=by
 simp[yK,W5] at h
 omega
theorem qO {s:Setup} (h:zw s=true):(1<=s.unit/\s.unit<=3600)/\(60<=s.cap/\s.cap<=57600):=by
 simp only[zw,kZ,Bool.and_eq_true] at h
 exact ⟨Qa h.1.2.1.1.1.1.2,Qa h.1.2.1.1.1.2⟩
def rqP (t u:Int):Int:=if t % u≥u - t % u then t / u+1 else t / u
theorem Qb {t u:Int} (h:1<=u) (a:u<=3600):qp t u=min (rqP (zO t 32054400) u*u) 32054400:=by
 have c0:0<=zO t 32054400:=by unfold zO;omega
 have c:zO t 32054400<=32054400:=by unfold zO;omega
 have l:=Int.emod_nonneg (zO t 32054400) (show u≠0 by omega)
 have g:=Int.emod_lt_of_pos (zO t 32054400) (show 0<u by omega)
 have i:0<=zO t 32054400 / u:=Int.ediv_nonneg c0 (by omega)
 have j:zO t 32054400 / u<=32054400:=Int.le_trans (Int.ediv_le_self _ c0) c
 have f:xE (zO t 32054400) u=(zO t 32054400 / u,zO t 32054400 % u):=by
  unfold xE
  rw[Int.tdiv_eq_ediv_of_nonneg c0,Int.tmod_eq_emod_of_nonneg c0,if_neg (by omega),zI (by unfold Fit;omega)]
 have d:Kx (zO t 32054400) u=(rqP (zO t 32054400) u,0):=by
  unfold Kx
  rw[if_neg (by omega),f]
  simp only
  rw[zI (n:=u - zO t 32054400 % u) (by unfold Fit;omega)]
  unfold rqP
  split
  ·rw[zI (by unfold Fit;omega)]
  ·rfl
 have e:0<=rqP (zO t 32054400) u:=by unfold rqP;split<;>omega
 have b:rqP (zO t 32054400) u<=32054401:=by unfold rqP;split<;>omega
 have k:rqP (zO t 32054400) u*u<=32054401*3600:=Int.mul_le_mul b a (by omega) (by omega)
 have m:0<=rqP (zO t 32054400) u*u:=Int.mul_nonneg e (by omega)
 unfold qp
 rw[if_neg (by omega),d]
 simp only
 rw[show min u 64108801=u by omega,zI (by unfold Fit;omega)]
theorem Jma {a b u:Int} (g:1<=u) (h:a<=b):rqP a u<=rqP b u:=by
 have e:a / u<=b / u:=Int.ediv_le_ediv (by omega) h
 have d:=Int.emod_add_mul_ediv a u
 have f:=Int.emod_add_mul_ediv b u
 have:=Int.emod_nonneg b (show u≠0 by omega)
 have:=Int.emod_lt_of_pos a (show 0<u by omega)
 unfold rqP
 by_cases c:a / u=b / u
 ·rw[c] at d⊢
  have i:a % u<=b % u:=by omega
  split<;>split<;>omega
 ·split<;>split<;>omega
theorem Jr {a b u:Int} (c:1<=u) (d:u<=3600) (h:a<=b):qp a u<=qp b u:=by
 rw[Qb c d,Qb c d]
 have e:zO a 32054400<=zO b 32054400:=by unfold zO;omega
 have:=Int.mul_le_mul_of_nonneg_right (Jma c e) (show 0<=u by omega)
 omega
theorem zCa {a u:Int} (b:1<=u) (c:u<=3600):0<=qp a u:=by
 rw[Qb b c]
 have c0:0<=zO a 32054400:=by unfold zO;omega
 have e:0<=zO a 32054400 / u:=Int.ediv_nonneg c0 (by omega)
 have d:0<=rqP (zO a 32054400) u:=by unfold rqP;split<;>omega
 have:=Int.mul_nonneg d (show 0<=u by omega)
 omega
theorem Zka {a u:Int} (b:1<=u) (c:u<=3600):qp a u<=32054400:=by
 rw[Qb b c]
 omega
theorem xKa {k:Int} (h:XK k=true):1<=k/\k<=7:=by
 simp[XK] at h
 omega
theorem yM {s:Setup} {e:Ev} (h:ko s e=true):qF e=true:=by
 unfold ko at h
 cases a:qF e
 ·rw[a] at h;simp at h
 ·rfl
theorem yq {e:Ev} (h:qF e=true):(1<=e.kind/\e.kind<=7)/\(0<=e.id/\e.id<=100000)/\0<=e.worker/\(0<=e.at_/\e.at_<=31449599)/\(e.kind≠4->e.code=0):=by
 simp only[qF,Bool.and_eq_true,Bool.not_not] at h
 obtain ⟨f,c,a,d,b⟩:=h
 refine ⟨xKa f,?_,?_,?_,λg=>?_⟩
 ·simp[Zf] at c;exact c
 ·simp at a;exact a
 ·simp[Zf] at d;exact d
 ·unfold jY at b
  by_cases a:e.kind=3
  ·simp[a] at b;omega
  ·simp[a,g] at b;omega
theorem qSa {s:Setup} {w:Int} {e:Ev}:vS s w e=true↔e.worker=w/\e.kind≠7/\ko s e=true:=by
 simp[vS,and_assoc]
theorem Zla {l:List Ev} (h:Srt l):l.Pairwise λa b=>a.at_<=b.at_:=by
 induction l with
 | nil=>exact .nil
 | cons x l f=>
   have h':Srt ([x]++l):=h
   obtain ⟨_,c,d⟩:=qW.1 h'
   refine List.pairwise_cons.2 ⟨λy e=>?_,f c⟩
   have:=d x (.head _) y e
   have:=(jQ y x).1 this
   omega
structure RiseTo (l:List Seg) (hi:Int):Prop where
 each:∀g∈l,0<=g.from_/\g.from_<g.to_/\g.to_<=hi
 gap:l.Pairwise λa b=>a.to_<=b.from_
theorem RiseTo.mono {l:List Seg} {a b:Int} (h:RiseTo l a) (k:a<=b):RiseTo l b:=⟨λg c=>by have:=h.each g c;omega,h.gap⟩
theorem RiseTo.snoc {l:List Seg} {b:Int} {g:Seg} (h:RiseTo l b) (h0:0<=b) (d:g.from_=b) (e:g.from_<g.to_):RiseTo (l++[g]) g.to_:=by
 refine ⟨λx a=>?_,List.pairwise_append.2 ⟨h.gap,by simp,λx a y c=>?_⟩⟩
 ·rcases List.mem_append.1 a with a | a
  ·have:=h.each x a;omega
  ·simp at a;subst a;omega
 ·simp at c;subst c
  have:=h.each x a
  omega
def Xf (e:Ev) (g:Seg):Prop:=g.id=e.id/\g.kind=Z8 e.kind/\g.code=e.code
theorem Js {t:TellS} {b c:Int} {e:Ev}:(va t b c e).segs=if b<c then t.segs++[⟨b,c,Z8 e.kind,e.id,e.code⟩] else t.segs:=by
 unfold va
 split<;>rfl
theorem VS {t:TellS} {b c:Int} {e:Ev} (h:RiseTo t.segs b) (h0:0<=b) (a:b<=c):RiseTo (va t b c e).segs c:=by
 rw[Js]
 split
 ·exact h.snoc (g:=⟨b,c,Z8 e.kind,e.id,e.code⟩) h0 rfl (by simp only;omega)
 ·exact h.mono a
theorem qTa {t:TellS} {b c:Int} {e:Ev} {p:Ev->Prop} (h:∀g∈t.segs,∃e,p e/\Xf e g) (d:p e):∀g∈(va t b c e).segs,∃e,p e/\Xf e g:=λg a=>by
 rw[Js] at a
 split at a
 ·rcases List.mem_append.1 a with a | a
  ·exact h g a
  ·simp at a;subst a;exact ⟨e,d,rfl,rfl,rfl⟩
 ·exact h g a
theorem VT {first last:Int} {p:Ev->Prop} (m:0<=first):∀(os:List Ev) (z:Int × Ev × TellS),first<=z.1->z.1<=max first last->RiseTo z.2.2.segs z.1->(∀g∈z.2.2.segs,∃e,p e/\Xf e g)->p z.2.1->
  os.Pairwise (λa b=>a.at_<=b.at_)->(∀x∈os,p x/\z.1<=toP first last x.at_)->
  first<=(os.foldl (kN first last) z).1/\(os.foldl (kN first last) z).1<=max first last/\RiseTo (os.foldl (kN first last) z).2.2.segs (os.foldl (kN first last) z).1/\(∀g∈(os.foldl (kN first last) z).2.2.segs,∃e,p e/\Xf e g)/\p (os.foldl (kN first last) z).2.1
 | [],z,k,h,f,c,d,_,_=>⟨k,h,f,c,d⟩
 | x::os,z,k,h,f,c,d,n,i=>by
   obtain ⟨k1,k2⟩:=List.pairwise_cons.1 n
   have j:=i x (.head _)
   rw[List.foldl_cons]
   refine VT m os (kN first last z x) ?_ ?_ ?_ ?_ j.1 k2 λy l=>⟨(i y (.tail _ l)).1,?_⟩
   ·simp only[kN,toP];omega
   ·simp only[kN,toP];omega
   ·exact VS f (by omega) j.2
   ·exact qTa c d
   ·have:=k1 y l
    simp only[kN,toP]
    omega
theorem xLa {first last:Int} {p:Ev->Prop} {t:TellS} {e:Ev} {os:List Ev} (c:0<=first) (l:RiseTo t.segs first) (h:∀g∈t.segs,∃e,p e/\Xf e g) (k:p e) (j:os.Pairwise λa b=>a.at_<=b.at_) (d:∀x∈os,p x):
  RiseTo (kO first last t e os).segs (max first last)/\∀g∈(kO first last t e os).segs,∃e,p e/\Xf e g:=by
 have:=VT (last:=last) c os (first,e,t) (Int.le_refl _) (by simp only;omega) l h k j λx f=>⟨d x f,by simp only[toP];omega⟩
 obtain ⟨k1,k2,k3,k4,k5⟩:=this
 have i:toP first last last=max first last:=by unfold toP;omega
 unfold kO xT
 rw[i]
 exact ⟨VS k3 (by omega) k2,qTa k4 k5⟩
structure InvR (s:Setup) (p:Ev->Prop) (t:TellS) (m:Int):Prop where
 rise:RiseTo t.segs (qp (match t.open_ with | none=>m | some (f,_)=>f.at_) s.unit)
 of:∀g∈t.segs,∃e,p e/\Xf e g
 opn:∀f os,t.open_=some (f,os)->p f/\f.at_<=m/\os.Pairwise (λa b=>a.at_<=b.at_)/\∀x∈os,p x/\x.at_<=m
section
variable {s:Setup} {p:Ev->Prop} {t:TellS} {m:Int}
theorem InvR.none (h:InvR s p t m) (a:t.open_=none):RiseTo t.segs (qp m s.unit):=by
 have:=h.rise;rw[a] at this;exact this
theorem InvR.some {f:Ev} {os:List Ev} (h:InvR s p t m) (a:t.open_=some (f,os)):RiseTo t.segs (qp f.at_ s.unit):=by
 have:=h.rise;rw[a] at this;exact this
theorem Jt (k:zw s=true) {f:Ev} {os:List Ev} (h:InvR s p t m) (b:t.open_=some (f,os)) {c:Int} (j:f.at_<=c):
  RiseTo (xF s t f os c).segs (qp c s.unit)/\∀g∈(xF s t f os c).segs,∃e,p e/\Xf e g:=by
 obtain ⟨⟨a,d⟩,_⟩:=qO k
 obtain ⟨k1,k2,k3,k4⟩:=h.opn f os b
 have:=xLa (last:=qp c s.unit) (zCa a d) (h.some b) h.of k1 k3 λx i=>(k4 x i).1
 have l:=Jr a d j
 rw[show max (qp f.at_ s.unit) (qp c s.unit)=qp c s.unit by omega] at this
 exact this
theorem XO {e:Ev} {k:Int} (h:InvR s p t m):InvR s p (js t e k) m:=⟨h.rise,h.of,h.opn⟩
theorem Yz (l:zw s=true) (r:∀e,p e->0<=e.at_/\e.at_<=31449599) (h:InvR s p t m) {a:Int} (n:m<=a):InvR s p (lateP s t a) a:=by
 obtain ⟨⟨i,k⟩,v,w⟩:=qO l
 unfold lateP
 cases b:t.open_ with
 | none=>
   simp only
   refine ⟨?_,h.of,λf os q=>by rw[b] at q;cases q⟩
   rw[b]
   exact (h.none b).mono (Jr i k n)
 | some q=>
   obtain ⟨f,os⟩:=q
   obtain ⟨k1,k2,k3,k4⟩:=h.opn f os b
   have u:=r f k1
   simp only
   split
   ·rename_i d
    rw[zI (by unfold Fit;omega)] at d⊢
    have:=Jt (t:=js t f 1) l (XO h) b (c:=f.at_+s.cap) (by omega)
    refine ⟨?_,this.2,λ_ _ q=>by cases q⟩
    exact this.1.mono (Jr i k (show f.at_+s.cap<=a by omega))
   ·refine ⟨?_,h.of,λo g q=>?_⟩
    ·rw[b];exact h.some b
    ·obtain ⟨k1,k2,k3,k4⟩:=h.opn o g q
     exact ⟨k1,by omega,k3,λx j=>⟨(k4 x j).1,by have:=(k4 x j).2;omega⟩⟩
theorem wja (k:zw s=true) (y:∀e,p e->0<=e.at_/\e.at_<=31449599) (h:InvR s p t m) {e:Ev} (l:e.kind≠2->p e) (u:m<=e.at_):InvR s p (xw s t e) e.at_:=by
 have g:=Yz k y h u
 unfold xw
 by_cases n:e.kind=1
 ·rw[if_pos n]
  have j:=l (by omega)
  cases i:(lateP s t e.at_).open_ with
  | none=>
    simp only
    refine ⟨g.none i,g.of,λf os q=>?_⟩
    injection q with q;injection q with q1 q2;subst q1;subst q2
    exact ⟨j,Int.le_refl _,.nil,λ_ d=>by cases d⟩
  | some q=>
    obtain ⟨f,os⟩:=q
    simp only
    have:=Jt (t:=js (lateP s t e.at_) f 2) k (XO g) i (c:=e.at_) (g.opn f os i).2.1
    refine ⟨this.1,this.2,λf os q=>?_⟩
    injection q with q;injection q with q1 q2;subst q1;subst q2
    exact ⟨j,Int.le_refl _,.nil,λ_ d=>by cases d⟩
 ·rw[if_neg n]
  cases i:(lateP s t e.at_).open_ with
  | none=>exact XO g
  | some q=>
    obtain ⟨f,os⟩:=q
    simp only
    split
    ·have:=Jt k g i (c:=e.at_) (g.opn f os i).2.1
     exact ⟨this.1,this.2,λ_ _ q=>by cases q⟩
    ·rename_i r
     obtain ⟨k1,k2,k3,k4⟩:=g.opn f os i
     refine ⟨g.some i,g.of,λz w q=>?_⟩
     injection q with q;injection q with q1 q2;subst q1;subst q2
     refine ⟨k1,k2,List.pairwise_append.2 ⟨k3,by simp,λa v b o=>?_⟩,λx d=>?_⟩
     ·simp at o;subst o;exact (k4 a v).2
     ·rcases List.mem_append.1 d with d | d
      ·exact k4 x d
      ·simp at d;subst d;exact ⟨l r,Int.le_refl _⟩
theorem VU (o:zw s=true) (k:∀e,p e->0<=e.at_/\e.at_<=31449599) {w:Int}:∀(l:List Ev) (t:TellS) (m:Int),InvR s p t m->l.Pairwise (λa b=>a.at_<=b.at_)->(∀e∈l,vS s w e=true->(e.kind≠2->p e)/\m<=e.at_/\e.at_<=31449599)->m<=31449599->∃q,q<=31449599/\InvR s p (l.foldl (vT s w) t) q
 | [],t,m,h,_,_,j=>⟨m,j,h⟩
 | e::l,t,m,h,n,g,j=>by
   obtain ⟨k1,k2⟩:=List.pairwise_cons.1 n
   rw[List.foldl_cons]
   unfold vT
   split
   ·rename_i c
    have i:=g e (.head _) c
    exact VU o k l _ e.at_ (wja o k h i.1 i.2.1) k2 (λx d f=>⟨(g x (.tail _ d) f).1,k1 x d,(g x (.tail _ d) f).2.2⟩) i.2.2
   ·exact VU o k l t m h k2 (λx d=>g x (.tail _ d)) j
end
theorem Qc {s:Setup} {l:List Ev} {w:Int} (c:zw s=true):
  RiseTo (zM s l w).1 32054400/\∀g∈(zM s l w).1,∃e,(e∈l/\vS s w e=true/\e.kind≠2)/\Xf e g:=by
 obtain ⟨⟨j,o⟩,_⟩:=qO c
 have i:∀e,(e∈l/\vS s w e=true/\e.kind≠2)->0<=e.at_/\e.at_<=31449599:=λe d=>(yq (yM (qSa.1 d.2.1).2.2)).2.2.2.1
 obtain ⟨m,q,k⟩:=VU (s:=s) (w:=w) (p:=λe=>e∈l/\vS s w e=true/\e.kind≠2) c i (zD l) ⟨none,[],[]⟩ 0 ⟨⟨λ_ h=>(by cases h),.nil⟩,λ_ h=>(by cases h),λ_ _ h=>(by cases h)⟩ (Zla (jW l)) (λe d b=>by
  have:=(yq (yM (qSa.1 b).2.2)).2.2.2.1
  exact ⟨λn=>⟨QN.1 d,b,n⟩,by omega,by omega⟩) (by omega)
 have f:=Yz c i k (a:=32054400) (by omega)
 unfold zM
 rw[if_pos c]
 refine ⟨f.rise.mono ?_,f.of⟩
 exact Zka j o
def spS (g:Seg):Spn:=⟨g.from_,g.to_⟩
def Wqa (t:TellS) (x:Int):Prop:=Cov (t.segs.map spS) x
def opF (t:TellS):Option Ev:=t.open_.map (·.1)
structure EqT (a b:TellS):Prop where
 opn:opF a=opF b
 cov:∀x,Wqa a x↔Wqa b x
section
variable {s:Setup} {a b:TellS}
theorem QR {t:TellS} {m a:Int} (h:m<=a):lateP s (lateP s t m) a=lateP s t a:=by
 cases b:t.open_ with
 | none=>
   have:∀k,lateP s t k=t:=λk=>by unfold lateP;rw[b]
   rw[this,this]
 | some q=>
   obtain ⟨f,os⟩:=q
   by_cases c:m>wr (f.at_+s.cap)
   ·have:∀k,k>wr (f.at_+s.cap)->lateP s t k=xF s (js t f 1) f os (wr (f.at_+s.cap)):=λk d=>by unfold lateP;rw[b];simp only;rw[if_pos d]
    rw[this m c,this a (by omega)]
    rfl
   ·have:lateP s t m=t:=by unfold lateP;rw[b];simp only;rw[if_neg c]
    rw[this]
theorem XP {t:TellS} {m:Int} {f:Ev} {os:List Ev} (h:(lateP s t m).open_=some (f,os)):lateP s t m=t/\t.open_=some (f,os)/\m<=wr (f.at_+s.cap):=by
 cases a:t.open_ with
 | none=>
   have:lateP s t m=t:=by unfold lateP;rw[a]
   rw[this,a] at h;cases h
 | some q=>
   obtain ⟨g,b⟩:=q
   by_cases c:m>wr (g.at_+s.cap)
   ·have:lateP s t m=xF s (js t g 1) g b (wr (g.at_+s.cap)):=by unfold lateP;rw[a];simp only;rw[if_pos c]
    rw[this] at h;cases h
   ·have:lateP s t m=t:=by unfold lateP;rw[a];simp only;rw[if_neg c]
    rw[this,a] at h
    injection h with h;injection h with h1 h2;subst h1;subst h2
    exact ⟨this,rfl,by omega⟩
structure Sim (s:Setup) (p:Ev->Prop) (a b:TellS) (m:Int):Prop where
 ia:InvR s p a m
 ib:InvR s p b m
 eq:EqT (lateP s a m) (lateP s b m)
end
theorem Qd {p:Ev->Bool} (x:Ev):∀ {l:List Ev},Srt l->(xC x l).filter p=if p x then xC x (l.filter p) else l.filter p
 | [],_=>by
   simp only[xC,List.filter_cons,List.filter_nil]
 | y::l,h=>by
   have h':Srt ([y]++l):=h
   have d:=(qW.1 h').2.1
   rw[qt]
   cases a:ltE y x
   ·simp only[Bool.false_eq_true,if_false]
    rw[List.filter_cons]
    cases e:p x
    ·simp
    ·simp only[if_true]
     have b:=qNa h a
     have:∀q:List Ev,(∀z∈q,ltE z x=false)->xC x q=x::q:=λq f=>by
      cases q with
      | nil=>rfl
      | cons z q=>rw[qt,f z (.head _)];rfl
     rw[this _ λz c=>b z (List.mem_filter.1 c).1]
   ·simp only[if_true]
    rw[List.filter_cons,Qd x d]
    rw[List.filter_cons]
    cases e:p x<;>cases g:p y<;>simp[qt,a]
theorem vb (p:Ev->Bool):∀(l:List Ev),zD (l.filter p)=(zD l).filter p
 | []=>rfl
 | x::l=>by
   rw[List.filter_cons,show zD (x::l)=xC x (zD l) from rfl,Qd x (jW l), <-vb p l]
   split
   ·rfl
   ·rfl
theorem VV {t u:Int} (b:1<=u) (a:u<=3600) (g:0<=t) (c:t<=32054400):2*qp t u<=2*t+u/\(2*t - u<=2*qp t u):=by
 rw[Qb b a,show zO t 32054400=t by unfold zO;omega]
 have e:=Int.emod_add_mul_ediv t u
 have f:=Int.emod_nonneg t (show u≠0 by omega)
 have d:=Int.emod_lt_of_pos t (show 0<u by omega)
 rw[Int.mul_comm] at e
 unfold rqP
 split
 ·rw[Int.add_mul];omega
 ·omega
structure InvB (s:Setup) (t:TellS):Prop where
 seg:∀g∈t.segs,g.kind=0/\g.to_ - g.from_<=s.cap+s.unit
 opn:∀f os,t.open_=some (f,os)->os=[]/\f.kind=1/\0<=f.at_/\f.at_<=31449599
section
variable {s:Setup} {t:TellS}
end
theorem YA {x y:Ev} (h:x.id≠y.id):ltE x y= !ltE y x:=by
 cases a:ltE x y<;>cases b:ltE y x<;>try rfl
 ·have:=(jQ x y).1 a
  have:=(jQ y x).1 b
  omega
 ·have:=(kE x y).1 a
  have:=(kE y x).1 b
  omega
theorem YB {x y:Ev} (h:x.id≠y.id):∀(l:List Ev),xC x (xC y l)=xC y (xC x l)
 | []=>by
   have:=YA h
   show xC x [y]=xC y [x]
   rw[qt,qt,this]
   cases ltE y x<;>rfl
 | z::l=>by
   have c:=YA h
   rw[qt,qt]
   cases a:ltE z x<;>cases b:ltE z y<;>simp only[Bool.false_eq_true,if_false,if_true]<;>simp only[qt,a,b,Bool.false_eq_true,if_false,if_true,c]
   ·cases ltE y x<;>simp
   ·have e:ltE y x=false:=by
     refine (jQ y x).2 λq=>?_
     have:=(jQ z x).1 a
     have:=(kE z y).1 b
     omega
    simp[e]
   ·have e:ltE y x=true:=by
     refine (kE y x).2 ?_
     have:=(kE z x).1 a
     have:=(jQ z y).1 b
     omega
    simp[e]
   ·rw[YB h l]
theorem xMa {a b:List Ev} (h:a.Perm b):(a.map (·.id)).Nodup->zD a=zD b:=by
 induction h with
 | nil=>intro _;rfl
 | cons x _ g=>
   intro c
   show xC x _=xC x _
   rw[g (List.nodup_cons.1 c).2]
 | swap x y l=>
   intro c
   show xC y (xC x _)=xC x (xC y _)
   refine YB ?_ _
   simp only[List.map_cons,List.nodup_cons,List.mem_cons,not_or] at c
   exact c.1.1
 | trans f _ d e=>
   intro c
   rw[d c,e ((f.map (·.id)).nodup_iff.1 c)]
theorem VW {s:Setup} {w:Int}:∀(l:List Ev) (t:TellS),l.foldl (vT s w) t=(l.filter (vS s w)).foldl (xw s) t
 | [],t=>rfl
 | e::l,t=>by
   rw[List.foldl_cons,List.filter_cons]
   cases h:vS s w e
   ·have a:vT s w t e=t:=by simp[vT,h]
    rw[a,VW l]
    rfl
   ·have a:vT s w t e=xw s t e:=by simp[vT,h]
    rw[a,VW l]
    rfl
theorem Zma {s:Setup} {w:Int} {l:List Ev}:goP s w (zD l)=(zD (l.filter (vS s w))).foldl (xw s) ⟨none,[],[]⟩:=by
 rw[goP,VW, <-vb]
def YWa (s:Setup) (g:Seg):Seg:=⟨qp g.from_ s.unit,qp g.to_ s.unit,g.kind,g.id,g.code⟩
def Wra (s:Setup) (l:List Seg):List Seg:=(l.map (YWa s)).filter λg=>decide (g.from_<g.to_)
structure SimO (s:Setup) (a b:TellS):Prop where
 opn:a.open_=b.open_
 segs:b.segs=Wra s a.segs
 os:∀f os,a.open_=some (f,os)->os=[]/\0<=f.at_/\f.at_<=31449599
section
variable {s:Setup} {a b:TellS}
end
structure FlagIn (done:List Ev) (t:TellS) (G:List (Ev × Int)):Prop where
 flags:t.flags=G.map λp=>⟨p.1.id,p.2⟩
 mem:∀p∈G,p.1∈done/\(p.1.kind=1↔(p.2=1∨p.2=2))
 nodup:(G.map (·.1.id)).Nodup
 opn:∀f os,t.open_=some (f,os)->f∈done/\f.kind=1/\∀p∈G,p.1.id≠f.id
 cnt:(done.countP λe=>e.kind==1)+(G.countP λp=>p.1.kind==2)=(done.countP λe=>e.kind==2)+(G.countP λp=>p.1.kind==1)+(if t.open_.isSome then 1 else 0)
section
variable {s:Setup} {t:TellS} {done:List Ev} {G:List (Ev × Int)}
end
theorem VX (x:Ev):∀(l:List Ev),(xC x l).Perm (x::l)
 | []=> .refl _
 | y::l=>by
   rw[qt]
   split
   ·exact ((VX x l).cons y).trans (.swap x y l)
   ·exact .refl _
theorem jJ:∀(l:List Ev),(zD l).Perm l
 | []=> .refl _
 | x::l=>(VX x (zD l)).trans ((jJ l).cons x)
end Go.Proofs.YtfmldcilgbbimaaGreat.Ax
