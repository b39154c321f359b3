import Derived.Test.YtigdlmpjijhpaaaGreatKA
import Derived.Test.YtigdlmpjijhpaaaGreatK19
import Derived.Test.YtigdlmpjijhpaaaGreatK21
import Derived.Test.YtigdlmpjijhpaaaGreatK23
import Derived.Test.YtigdlmpjijhpaaaGreatK10
import Derived.Test.YtigdlmpjijhpaaaGreatK24
import Derived.OrdersIn
import Derived.RangeFuncCalls
import Derived.RangeFuncNested
import Derived.RangeFuncLeaves
set_option linter.all false
namespace Go.Proofs.YtigdlmpjijhpaaaGreat.Ax
open Go
structure FlF (D:List Ev) (t:TellS):Prop where
 flags:∀x∈t.flags,∃e∈D,e.id=x.id
 opn:∀f os,t.open_=some (f,os)->f∈D
section
variable {D:List Ev} {t:TellS} {s:Setup}
theorem FlF.flag(h:FlF D t){e:Ev}(b:e∈D)(k:Int):FlF D (xJ t e k):=⟨λx a=>by
 rcases zI.1 (show x∈t.flags++[⟨e.id,k⟩] from a) with a|a
 ·exact h.flags x a
 ·rw[zW] at a;subst a;exact⟨e,b,rfl⟩,h.opn⟩
theorem FlF.close(h:FlF D t)(f:Ev)(os:List Ev)(at_:Int):FlF D (vH s t f os at_):=⟨h.flags,λ_ _ q=>by cases q⟩
theorem FlF.late(h:FlF D t)(m:Int):FlF D (lateP s t m):=by
 unfold lateP
 split
 ·exact h
 ·rename_i e os a
  split
  ·exact(h.flag (h.opn e os a) 1).close e os _
  ·exact h
theorem FlF.next(h:FlF D t){e:Ev}(b:e∈D):FlF D (ko s t e):=by
 have a:=h.late (s:=s) e.at_
 unfold ko
 split
 ·split
  ·exact⟨a.flags,λf os q=>by injection q with q;injection q with q _;rw[<-q];exact b⟩
  ·rename_i f os c
   have g:=(a.flag (a.opn f os c) 2).close (s:=s) f os e.at_
   exact⟨g.flags,λf os q=>by injection q with q;injection q with q _;rw[<-q];exact b⟩
 ·split
  ·exact a.flag b 3
  ·rename_i f os c
   split
   ·exact a.close f os _
   ·exact⟨a.flags,λi d q=>by injection q with q;injection q with q _;rw[<-q];exact a.opn f os c⟩
theorem FlF.go{w:Int}:∀(l:List Ev) {t:TellS},FlF D t->(∀e∈l,e∈D)->FlF D (l.foldl (vW s w) t)
 | [],t,h,_=>h
 | e::l,t,h,a=>by
   rw[List.foldl_cons]
   refine FlF.go l ?_ λx b=>a x (.tail _ b)
   unfold vW
   split
   ·exact h.next (a e (.head _))
   ·exact h
theorem XB{l:List Ev}{w:Int}:∀x∈(qA s l w).2,∃e∈l,e.id=x.id:=by
 unfold qA
 split
 ·have h0:FlF l ⟨none,[],[]⟩:=⟨λx a=>(by cases a),λ_ _ q=>(by cases q)⟩
  have c:FlF l (goP s w (qu l)):=FlF.go _ h0 λe b=>Xw.1 b
  exact(c.late (s:=s) 32054400).flags
 ·intro x a;cases a
end
open Go.Proofs
def Qaa(b c:Int)(e:Ev):List Seg:=if b<c then [⟨b,c,JZ e.kind,e.id,e.code⟩] else []
theorem qMa{t:TellS}{b c:Int}{e:Ev}:(yb t b c e).segs=t.segs++Qaa b c e:=by
 rw[Kk];unfold Qaa;split<;>simp
def kda(first last:Int):Int->Ev->List Ev->List Seg
 | b,e,[]=>Qaa b (toP first last last) e
 | b,e,x::os=>Qaa b (toP first last x.at_) e++kda first last (toP first last x.at_) x os
theorem qNa{first last:Int}:∀(os:List Ev) (b:Int) (e:Ev) (t:TellS),
  (yb (os.foldl (wK first last) (b,e,t)).2.2 (os.foldl (wK first last) (b,e,t)).1 (toP first last last) (os.foldl (wK first last) (b,e,t)).2.1).segs=t.segs++kda first last b e os
 | [],b,e,t=>qMa
 | x::os,b,e,t=>by
   rw[List.foldl_cons,show wK first last (b,e,t) x=(toP first last x.at_,x,yb t b (toP first last x.at_) e) from rfl,qNa os,qMa,zr]
   rfl
theorem wG{s:Setup}{t:TellS}{f:Ev}{os:List Ev}{c:Int}:(vH s t f os c).segs=t.segs++kda (jv f.at_ s.unit) (jv c s.unit) (jv f.at_ s.unit) f os:=qNa os _ _ _
theorem ysa{first last b c:Int}{e:Ev}(f:first<=b)(d:c<=max first last):∀g∈Qaa b c e,first<=g.from_/\g.to_<=max first last:=λg a=>by
 unfold Qaa at a
 split at a
 ·rw[zW] at a
  subst a
  exact⟨f,d⟩
 ·cases a
theorem kea{first last:Int}:∀(os:List Ev) (b:Int) (e:Ev),first<=b->∀g∈kda first last b e os,first<=g.from_/\g.to_<=max first last
 | [],b,e,c,g,a=>ysa c (by unfold toP;omega) g a
 | x::os,b,e,c,g,a=>by
   rcases zI.1 a with a|a
   ·exact ysa c (by unfold toP;omega) g a
   ·exact kea os _ _ (by unfold toP;omega) g a
def inG(s:Setup)(n:Int)(g:Seg):Bool:=decide (n - (s.unit+s.cap)<=g.from_) && decide (g.to_<=n+(s.unit+s.cap))
def QA(s:Setup)(n:Int)(l:List Seg):List Seg:=l.filter λg=> !inG s n g
def yB(q:Int->Bool)(l:List Flg):List Flg:=l.filter λf=> !q f.id
theorem ZF(s:Setup)(n:Int)(a b:List Seg):QA s n (a++b)=QA s n a++QA s n b:=qo ..
theorem ZG(q:Int->Bool)(a b:List Flg):yB q (a++b)=yB q a++yB q b:=qo ..
theorem Y5{q:Int->Bool}{a:List Flg}{i k:Int}(h:q i=true):yB q (a++[⟨i,k⟩])=yB q a:=by
 rw[ZG,show yB q [⟨i,k⟩]=[] by simp[yB,h],zM]
theorem VP{s:Setup}(d:z6 s=true){t:TellS}{f:Ev}{os:List Ev}{c n:Int}(h0:0<=f.at_/\f.at_<=31449599)(o:n - s.cap<=f.at_)(j:f.at_<=n)(l:f.at_<=c)(k:c<=n+s.cap)(m:c<=f.at_+s.cap):QA s n (vH s t f os c).segs=QA s n t.segs:=by
 obtain⟨⟨b,a⟩,p,h⟩:=jU d
 have q:=YZ b a (t:=f.at_) (by omega) (by omega)
 have i:=YZ b a (t:=c) (by omega) (by omega)
 rw[wG,ZF]
 have:QA s n (kda (jv f.at_ s.unit) (jv c s.unit) (jv f.at_ s.unit) f os)=[]:=by
  unfold QA
  rw[List.filter_eq_nil_iff]
  intro g e
  have:=kea os _ f (Int.le_refl _) g e
  simp only[inG,Bool.not_eq_true,Bool.not_eq_false',zq,decide_eq_true_eq]
  omega
 rw[this,zM]
def InO(s:Setup)(p:Ev->Prop)(n:Int)(t:TellS):Prop:=∀f os,t.open_=some (f,os)->p f/\n - s.cap<=f.at_/\f.at_<=n
structure Nr (s:Setup) (p:Ev->Prop) (n:Int) (q:Int->Bool) (a b:TellS):Prop where
 seg:QA s n a.segs=QA s n b.segs
 flg:yB q a.flags=yB q b.flags
 opn:a.open_=b.open_∨(InO s p n a/\InO s p n b)
def QB(s:Setup)(t:TellS)(e:Ev):TellS:=
 if e.kind=1 then(match t.open_ with
  | none=>⟨some (e,[]),t.segs,t.flags⟩
  | some (f,os)=>⟨some (e,[]),(vH s (xJ t f 2) f os e.at_).segs,(vH s (xJ t f 2) f os e.at_).flags⟩)
 else match t.open_ with
  | none=>xJ t e 3
  | some (f,os)=>if e.kind=2 then vH s t f os e.at_ else⟨some (f,os++[e]),t.segs,t.flags⟩
theorem Vc(s:Setup)(t:TellS)(e:Ev):ko s t e=QB s (lateP s t e.at_) e:=rfl
section
variable {s:Setup} {p:Ev->Prop} {n:Int} {q:Int->Bool} {a b t:TellS}
theorem jSa{f:Ev}(a:z6 s=true)(h0:0<=f.at_/\f.at_<=31449599):wr (f.at_+s.cap)=f.at_+s.cap:=by
 obtain⟨⟨e,c⟩,d,b⟩:=jU a
 exact qq (by unfold Fit;omega)
theorem yta(a:z6 s=true)(d:∀e,p e->0<=e.at_/\e.at_<=31449599)(c:∀e,p e->n - s.cap<=e.at_->e.at_<=n+s.cap->q e.id=true)(h:InO s p n t)(m:Int):
  QA s n (lateP s t m).segs=QA s n t.segs/\yB q (lateP s t m).flags=yB q t.flags/\InO s p n (lateP s t m):=by
 obtain⟨⟨l,j⟩,k,i⟩:=jU a
 unfold lateP
 cases g:t.open_ with
 | none=>exact⟨rfl,rfl,h⟩
 | some z=>
   obtain⟨f,os⟩:=z
   obtain⟨k1,k2,k3⟩:=h f os g
   have b:=d f k1
   simp only
   split
   ·rw[jSa a b]
    refine⟨VP (t:=xJ t f 1) a b k2 k3 (by omega) (by omega) (by omega),?_,λ_ _ q=>by cases q⟩
    show yB q (t.flags++[⟨f.id,1⟩])=_
    exact Y5 (c f k1 k2 (by omega))
   ·exact⟨rfl,rfl,h⟩
theorem Nr.late(d:z6 s=true)(i:∀e,p e->0<=e.at_/\e.at_<=31449599)(g:∀e,p e->n - s.cap<=e.at_->e.at_<=n+s.cap->q e.id=true)(h:Nr s p n q a b)(m:Int):Nr s p n q (lateP s a m) (lateP s b m):=by
 rcases h.opn with j|⟨o,k⟩
 ·cases c:b.open_ with
  | none=>
    have r:lateP s a m=a:=by unfold lateP;rw[j,c]
    have l:lateP s b m=b:=by unfold lateP;rw[c]
    rw[r,l];exact h
  | some z=>
    obtain⟨f,os⟩:=z
    unfold lateP
    rw[j,c]
    simp only
    split
    ·refine⟨?_,?_,.inl rfl⟩
     ·rw[wG,wG,ZF,ZF,show(xJ a f 1).segs=a.segs from rfl,show(xJ b f 1).segs=b.segs from rfl,h.seg]
     ·show yB q (a.flags++_)=yB q (b.flags++_)
      rw[ZG,ZG,h.flg]
    ·exact h
 ·obtain⟨a1,a2,a3⟩:=yta (q:=q) d i g o m
  obtain⟨b1,b2,b3⟩:=yta (q:=q) d i g k m
  exact⟨by rw[a1,b1];exact h.seg,by rw[a2,b2];exact h.flg,.inr ⟨a3,b3⟩⟩
theorem jTa(b:z6 s=true)(r:∀e,p e->0<=e.at_/\e.at_<=31449599)(g:∀e,p e->n - s.cap<=e.at_->e.at_<=n+s.cap->q e.id=true)(h:InO s p n t){e:Ev}(m:p e)(w:n<=e.at_)(c:e.at_<=n+s.cap)
  (o:∀f os,t.open_=some (f,os)->e.at_<=f.at_+s.cap):
  QA s n (QB s t e).segs=QA s n t.segs/\yB q (QB s t e).flags=yB q t.flags/\(e.kind=1->(QB s t e).open_=some (e,[]))/\(e.kind≠1->InO s p n (QB s t e)):=by
 obtain⟨⟨y,v⟩,x,u⟩:=jU b
 have d:=g e m (by omega) c
 unfold QB
 cases k:t.open_ with
 | none=>
   by_cases a:e.kind=1
   ·rw[if_pos a]
    exact⟨rfl,rfl,λ_=>rfl,λq=>absurd a q⟩
   ·rw[if_neg a]
    exact⟨rfl,Y5 d,λq=>absurd q a,λ_=>h⟩
 | some z=>
   obtain⟨f,os⟩:=z
   obtain⟨k1,k2,k3⟩:=h f os k
   have i:=r f k1
   have j:=o f os k
   by_cases a:e.kind=1
   ·rw[if_pos a]
    refine⟨VP (t:=xJ t f 2) b i k2 k3 (by omega) c j,?_,λ_=>rfl,λq=>absurd a q⟩
    show yB q (t.flags++[⟨f.id,2⟩])=_
    exact Y5 (g f k1 k2 (by omega))
   ·rw[if_neg a]
    simp only
    split
    ·exact⟨VP b i k2 k3 (by omega) c j,rfl,λq=>absurd q a,λ_ _ _ q=>by cases q⟩
    ·refine⟨rfl,rfl,λq=>absurd q a,λ_ A l q=>?_⟩
     injection q with q;injection q with q1 q2;subst q1
     exact⟨k1,k2,k3⟩
theorem Nr.next(t:z6 s=true)(o:∀e,p e->0<=e.at_/\e.at_<=31449599)(l:∀e,p e->n - s.cap<=e.at_->e.at_<=n+s.cap->q e.id=true)(h:Nr s p n q a b){e:Ev}(k:p e)(r:n<=e.at_)
  (m:∀f os,a.open_=some (f,os)->e.at_<=f.at_+s.cap) (v:∀f os,b.open_=some (f,os)->e.at_<=f.at_+s.cap):Nr s p n q (QB s a e) (QB s b e):=by
 have same:a.open_=b.open_->Nr s p n q (QB s a e) (QB s b e):=λi=>by
  unfold QB
  rw[i]
  cases b.open_ with
  | none=>
    simp only
    split
    ·exact⟨h.seg,h.flg,.inl rfl⟩
    ·refine⟨h.seg,?_,.inl i⟩
     show yB q (a.flags++_)=yB q (b.flags++_)
     rw[ZG,ZG,h.flg]
  | some z=>
    obtain⟨f,os⟩:=z
    simp only
    split
    ·refine⟨?_,?_,.inl rfl⟩
     ·rw[wG,wG,ZF,ZF,show(xJ a f 2).segs=a.segs from rfl,show(xJ b f 2).segs=b.segs from rfl,h.seg]
     ·show yB q (a.flags++_)=yB q (b.flags++_)
      rw[ZG,ZG,h.flg]
    ·split
     ·exact⟨by rw[wG,wG,ZF,ZF,h.seg],h.flg,.inl rfl⟩
     ·exact⟨h.seg,h.flg,.inl rfl⟩
 rcases h.opn with i|⟨k1,k2⟩
 ·exact same i
 ·by_cases j:a.open_=none/\b.open_=none
  ·exact same (j.1.trans j.2.symm)
  ·have u:e.at_<=n+s.cap:=by
    cases d:a.open_ with
    | some z=>
      obtain⟨f,os⟩:=z
      have:=m f os d
      have:=(k1 f os d).2.2
      omega
    | none=>cases c:b.open_ with
      | some z=>
        obtain⟨f,os⟩:=z
        have:=v f os c
        have:=(k2 f os c).2.2
        omega
      | none=>exact absurd ⟨d,c⟩ j
   obtain⟨w,y,E,C⟩:=jTa (q:=q) t o l k1 k r u m
   obtain⟨x,A,D,B⟩:=jTa (q:=q) t o l k2 k r u v
   refine⟨by rw[w,x];exact h.seg,by rw[y,A];exact h.flg,?_⟩
   by_cases g:e.kind=1
   ·exact .inl (by rw[E g,D g])
   ·exact .inr ⟨C g,B g⟩
theorem J3(b:z6 s=true)(a:∀e,p e->0<=e.at_/\e.at_<=31449599){m:Int}(c:∀f os,t.open_=some (f,os)->p f):∀f os,(lateP s t m).open_=some (f,os)->m<=f.at_+s.cap:=λf os d=>by
 obtain⟨_,k2,k3⟩:=VO d
 rw[jSa b (a f (c f os k2))] at k3
 exact k3
theorem yua(a:∀f os,t.open_=some (f,os)->p f)(m:Int):∀f os,(lateP s t m).open_=some (f,os)->p f:=λf os b=>a f os (VO b).2.1
theorem Vd(h:∀f os,t.open_=some (f,os)->p f){e:Ev}(d:p e):∀f os,(ko s t e).open_=some (f,os)->p f:=λf os a=>by
 have b:=yua (s:=s) h e.at_
 rw[Vc] at a
 unfold QB at a
 cases c:(lateP s t e.at_).open_ with
 | none=>
   rw[c] at a
   simp only at a
   split at a
   ·injection a with a;injection a with h1 h2;subst h1;exact d
   ·exact b f os a
 | some z=>
   obtain⟨g,gs⟩:=z
   rw[c] at a
   simp only at a
   split at a
   ·injection a with a;injection a with h1 h2;subst h1;exact d
   ·split at a
    ·cases a
    ·injection a with a;injection a with h1 h2;subst h1;exact b _ _ c
theorem VQ(d:z6 s=true)(l:∀e,p e->0<=e.at_/\e.at_<=31449599)(h:∀f os,t.open_=some (f,os)->p f){e:Ev}(o:p e):lateP s (ko s t e) e.at_=ko s t e:=by
 obtain⟨⟨u,r⟩,v,q⟩:=jU d
 have k:=J3 (m:=e.at_) d l h
 have n:=yua (s:=s) h e.at_
 have b:∀f os,(ko s t e).open_=some (f,os)->e.at_<=f.at_+s.cap:=λf os a=>by
  rw[Vc] at a
  unfold QB at a
  cases j:(lateP s t e.at_).open_ with
  | none=>
    rw[j] at a
    simp only at a
    split at a
    ·injection a with a;injection a with c h2;subst c;omega
    ·exact k f os a
  | some z=>
    obtain⟨g,gs⟩:=z
    rw[j] at a
    simp only at a
    split at a
    ·injection a with a;injection a with c h2;subst c;omega
    ·split at a
     ·cases a
     ·injection a with a;injection a with c h2;subst c;exact k _ _ j
 have i:=Vd h o (s:=s)
 rw[lateP.eq_1]
 cases a:(ko s t e).open_ with
 | none=>rfl
 | some z=>
   obtain⟨f,os⟩:=z
   have c:=b f os a
   simp only
   rw[jSa d (l f (i f os a)),if_neg (by omega)]
theorem qOa(d:z6 s=true)(c:∀e,p e->0<=e.at_/\e.at_<=31449599)(o:∀e,p e->n - s.cap<=e.at_->e.at_<=n+s.cap->q e.id=true):∀(l:List Ev) (a b:TellS) (m:Int),Nr s p n q (lateP s a m) (lateP s b m)->
  (∀f os,a.open_=some (f,os)->p f)->(∀f os,b.open_=some (f,os)->p f)->n<=m->l.Pairwise (λa b=>a.at_<=b.at_)->(∀e∈l,p e/\m<=e.at_)->m<=32054400->
  Nr s p n q (lateP s (l.foldl (ko s) a) 32054400) (lateP s (l.foldl (ko s) b) 32054400)
 | [],a,b,m,h,r,k,z,_,_,t=>by
   have:=h.late d c o 32054400
   rw[XA t,XA t] at this
   exact this
 | e::l,a,b,m,h,r,k,z,i,y,t=>by
   obtain⟨k1,k2⟩:=zR.1 i
   obtain⟨g,j⟩:=y e (.head _)
   have w:=h.late d c o e.at_
   rw[XA j,XA j] at w
   have v:=w.next d c o g (by omega) (J3 d c r) (J3 d c k)
   rw[<-Vc, <-Vc] at v
   rw[List.foldl_cons,List.foldl_cons]
   refine qOa d c o l _ _ e.at_ ?_ (Vd r g) (Vd k g) (by omega) k2 (λx u=>⟨(y x (.tail _ u)).1,k1 x u⟩) (by have:=c e g;omega)
   rw[VQ d c r g,VQ d c k g]
   exact v
theorem yva:∀(l:List Ev) (t:TellS),(∀f os,t.open_=some (f,os)->p f)->(∀e∈l,p e)->∀f os,(l.foldl (ko s) t).open_=some (f,os)->p f
 | [],t,h,_=>h
 | e::l,t,h,a=>by
   rw[List.foldl_cons]
   exact yva l _ (Vd h (a e (.head _))) λx b=>a x (.tail _ b)
end
theorem VGa{s:Setup}(i:z6 s=true){A B:List Ev}{e:Ev}{q:Int->Bool}(j:(A++e::B).Pairwise λa b=>a.at_<=b.at_)(g:∀x∈A++e::B,0<=x.at_/\x.at_<=31449599)
  (o:∀x∈A++e::B,e.at_ - s.cap<=x.at_->x.at_<=e.at_+s.cap->q x.id=true):
  Nr s (λx=>x∈A++e::B) e.at_ q (lateP s ((A++B).foldl (ko s) ⟨none,[],[]⟩) 32054400) (lateP s ((A++e::B).foldl (ko s) ⟨none,[],[]⟩) 32054400):=by
 obtain⟨⟨G,I⟩,F,H⟩:=jU i
 obtain⟨k1,k2,k3⟩:=qT.1 j
 obtain⟨k4,k5⟩:=zR.1 k2
 have c:e∈A++e::B:=List.mem_append_right _ (.head _)
 rw[qK,qK,List.foldl_cons]
 obtain⟨t,n⟩:∃t,t=A.foldl (ko s) ⟨none,[],[]⟩:=⟨_,rfl⟩
 rw[<-n]
 have w:∀f os,t.open_=some (f,os)->f∈A:=by
  rw[n]
  exact yva (p:=λx=>x∈A) A _ (λ_ _ h=>by cases h) λ_ h=>h
 have k:∀f os,t.open_=some (f,os)->f∈A++e::B:=λf os h=>List.mem_append_left _ (w f os h)
 refine qOa i g o B _ _ e.at_ ?_ k (Vd (p:=λx=>x∈A++e::B) k c) (Int.le_refl _) k5 (λx r=>⟨List.mem_append_right _ (.tail _ r),k4 x r⟩) (by have:=g e c;omega)
 rw[VQ (p:=λx=>x∈A++e::B) i g k c,Vc]
 have l:InO s (λx=>x∈A++e::B) e.at_ (lateP s t e.at_):=λf os d=>by
  have u:=J3 (p:=λx=>x∈A++e::B) i g k f os d
  have m:=w f os (VO d).2.1
  have E:=k3 f m e (.head _)
  exact⟨List.mem_append_left _ m,by omega,E⟩
 obtain⟨y,z,D,C⟩:=jTa (q:=q) i g o l c (Int.le_refl _) (by omega) (J3 (p:=λx=>x∈A++e::B) i g k)
 refine⟨y.symm,z.symm,.inr ⟨l,?_⟩⟩
 by_cases v:e.kind=1
 ·intro f os d
  rw[D v] at d
  injection d with d;injection d with u m;subst u
  exact⟨c,by omega,Int.le_refl _⟩
 ·exact C v
def ZH(s t:Spn):Spn:=⟨max s.from_ t.from_,min s.to_ t.to_⟩
def Zg(a b:List Spn):List Spn:=a.flatMap λs=>b.map (ZH s)
def Vf(a b:List Spn):List Spn:=qx (Zg (qx a) (qx b))
theorem wia(a b:List Spn)(s:Spn):Zg (a++[s]) b=Zg a b++b.map (ZH s):=by simp[Zg]
theorem qPa(a b:List Spn):(Zg a b).length=a.length*b.length:=by
 induction a with
 | nil=>simp[Zg]
 | cons s a c=>simp only[Zg,List.flatMap_cons,zg,zb,List.length_cons,Nat.succ_mul] at *; omega
theorem VT{a b:List Spn}{t:Int}:Cov (Zg a b) t↔Cov a t/\Cov b t:=by
 unfold Cov Zg
 constructor
 ·rintro ⟨s,e,g,f⟩
  obtain⟨x,c,e⟩:=List.mem_flatMap.1 e
  obtain⟨y,d,rfl⟩:=zt.1 e
  simp only[ZH] at g f
  exact⟨⟨x,c,by omega,by omega⟩,y,d,by omega,by omega⟩
 ·rintro ⟨⟨x,c,g,f⟩,y,d,i,h⟩
  exact⟨ZH x y,List.mem_flatMap.2 ⟨x,c,zt.2 ⟨y,d,rfl⟩⟩,by simp only[ZH];omega,by simp only[ZH];omega⟩
theorem Vg{a b:List Spn}{t:Int}:Cov (Vf a b) t↔(0<=t/\t<32054400)/\Cov a t/\Cov b t:=by
 unfold Vf
 rw[js,VT,js,js]
 constructor
 ·rintro ⟨d,c,⟨_,_,f⟩,_,_,e⟩;exact⟨⟨d,c⟩,f,e⟩
 ·rintro ⟨⟨d,c⟩,f,e⟩;exact⟨d,c,⟨d,c,f⟩,d,c,e⟩
theorem J4:∀(c:Spn) (r:List Spn) (s:Spn),s∈vq c r->s.from_=c.from_∨∃x∈r,s.from_=x.from_
 | c,[],s,h=>by
   rw[vq,zW] at h
   subst h;exact .inl rfl
 | c,x::r,s,h=>by
   rw[vq] at h
   split at h
   ·rcases J4 _ r s h with h|⟨y,a,h⟩
    ·exact .inl h
    ·exact .inr ⟨y,.tail _ a,h⟩
   ·rcases zy.1 h with rfl|h
    ·exact .inl rfl
    ·rcases J4 x r s h with h|⟨y,a,h⟩
     ·exact .inr ⟨x,.head _,h⟩
     ·exact .inr ⟨y,.tail _ a,h⟩
theorem Km{l:List Spn}{s:Spn}(h:s∈qx l):∃x∈xu l,s.from_=x.from_:=by
 unfold qx at h
 have b:∀x∈K9 (xu l),x∈xu l:=λx a=>(wF _).mem_iff.1 a
 cases d:K9 (xu l) with
 | nil=>rw[d] at h;cases h
 | cons c r=>
   rw[d] at h b
   rcases J4 c r s h with h|⟨x,a,h⟩
   ·exact⟨c,b c (.head _),h⟩
   ·exact⟨x,b x (.tail _ a),h⟩
theorem XC:∀ {a b:List Int},a.Nodup->(∀x∈a,x∈b)->a.length<=b.length
 | [],_,_,_=>by simp
 | x::a,b,c,d=>by
   rw[List.nodup_cons] at c
   have f:=d x (.head _)
   have:=XC (a:=a) (b:=b.erase x) c.2 λy g=>(List.mem_erase_of_ne (λe=>c.1 (by rw[<-e];exact g))).2 (d y (.tail _ g))
   rw[List.length_erase_of_mem f] at this
   have:0<b.length:=List.length_pos_of_mem f
   rw[List.length_cons];omega
theorem PlainS.froms{l:List Spn}(h:PlainS l):(l.map (·.from_)).Nodup:=by
 induction l with
 | nil=>simp
 | cons s l c=>
   rw[List.map_cons,List.nodup_cons]
   refine⟨λb=>?_,c h.tail⟩
   obtain⟨x,a,e⟩:=zt.1 b
   have f:=(zR.1 h.gap).1 x a
   have d:=h.pos s (.head _)
   omega
theorem zca(a b:List Spn):(Vf a b).length<=(qx a).length+(qx b).length:=by
 have j:=(vh (Zg (qx a) (qx b))).froms
 have c:((Vf a b).map (·.from_)).length<=((qx a).map (·.from_)++(qx b).map (·.from_)).length:=by
  refine XC j λx i=>?_
  obtain⟨s,c,rfl⟩:=zt.1 i
  obtain⟨y,f,e⟩:=Km c
  unfold xu at f
  obtain⟨z,d,rfl⟩:=zt.1 (zL.1 f).1
  obtain⟨p,h,d⟩:=List.mem_flatMap.1 d
  obtain⟨q,g,rfl⟩:=zt.1 d
  have m:=(kX p h).1
  have l:=(kX q g).1
  rw[zI]
  rw[e]
  simp only[kE,ZH]
  by_cases k:p.from_<=q.from_
  ·exact .inr (zt.2 ⟨q,g,by omega⟩)
  ·exact .inl (zt.2 ⟨p,h,by omega⟩)
 simpa using c
def jk:Int->List Spn->List Spn
 | k,[]=>if k<32054400 then [⟨k,32054400⟩] else []
 | k,s::r=>(if s.from_>k then [⟨k,s.from_⟩] else [])++jk s.to_ r
def jD(a b:List Spn):List Spn:=Vf a (jk 0 (qx b))
theorem zda:∀ {l:List Spn} {k t:Int},PlainS l->(∀s∈l,k<=s.from_)->(∀s∈l,s.to_<=32054400)->(Cov (jk k l) t↔(k<=t/\t<32054400)/\¬ Cov l t)
 | [],k,t,_,_,_=>by
   unfold jk
   split
   ·simp[Cov]
   ·simp[Cov];omega
 | s::r,k,t,b,i,e=>by
   have o:=i s (.head _)
   have j:=b.pos s (.head _)
   have m:=e s (.head _)
   have f:=zda (l:=r) (k:=s.to_) (t:=t) b.tail (λx c=>by have:=(zR.1 b.gap).1 x c;omega) (λx c=>e x (.tail _ c))
   have d:Cov r t->s.to_<t:=b.above
   rw[jk,jPa,f,jT]
   split
   ·simp only[Cov,zW,exists_eq_left]
    constructor
    ·rintro (h|⟨h,a⟩)
     ·refine⟨by omega,?_⟩
      rintro (q|q)
      ·omega
      ·have:=d q;omega
     ·exact⟨by omega,λq=>by rcases q with q|q;omega;exact a q⟩
    ·rintro ⟨h,a⟩
     by_cases n:t<s.from_
     ·exact .inl (by omega)
     ·refine .inr ⟨⟨?_,h.2⟩,λq=>a (.inr q)⟩
      apply Classical.byContradiction
      intro g
      exact a (.inl (by omega))
   ·simp only[Cov,List.not_mem_nil,false_and,exists_false,false_or]
    constructor
    ·rintro ⟨h,a⟩
     exact⟨by omega,λq=>by rcases q with q|q;omega;exact a q⟩
    ·rintro ⟨h,a⟩
     refine⟨⟨?_,h.2⟩,λq=>a (.inr q)⟩
     apply Classical.byContradiction
     intro g
     exact a (.inl (by omega))
theorem Kn:∀(l:List Spn) (k:Int),(jk k l).length<=l.length+1
 | [],k=>by unfold jk;split<;>simp
 | s::r,k=>by
   have:=Kn r s.to_
   rw[jk,zg,List.length_cons]
   split<;>simp<;>omega
theorem wH{a b:List Spn}{t:Int}:Cov (jD a b) t↔(0<=t/\t<32054400)/\Cov a t/\¬ Cov b t:=by
 unfold jD
 rw[Vg,zda (vh b) (λs e=>(kX s e).1) (λs e=>(kX s e).2.2),js]
 constructor
 ·rintro ⟨c,d,_,f⟩;exact⟨c,d,λq=>f ⟨c.1,c.2,q⟩⟩
 ·rintro ⟨c,d,f⟩;exact⟨c,d,c,λq=>f q.2.2⟩
theorem xx(a b:List Spn):(jD a b).length<=(qx a).length+(qx b).length+1:=by
 have d:=zca a (jk 0 (qx b))
 have c:=qm (jk 0 (qx b))
 have e:=Kn (qx b) 0
 unfold jD
 omega
def Jc(s:Spn)(n:Int):Spn:=⟨s.from_,min s.to_ (s.from_+min n 32054400)⟩
def Jd:List Spn->Int->List Spn
 | [],_=>[]
 | s::r,n=>if n<=0 then [] else Jc s n::Jd r (n - ((Jc s n).to_ - s.from_))
theorem xP:∀(l:List Spn) (n:Int),(Jd l n).length<=l.length
 | [],_=>zp _
 | s::r,n=>by
   rw[Jd]
   split
   ·simp
   ·have:=xP r (n - ((Jc s n).to_ - s.from_))
    simp only[List.length_cons];omega
def qP(l:List Spn)(n:Int):List Spn:=Jd (qx l) n
def J5(l:List Spn)(n:Int):List Spn:=if n<=0 then [] else jD l (qP l (jQ (qx l) - min n 32054400))
end Go.Proofs.YtigdlmpjijhpaaaGreat.Ax
namespace Go.Proofs.YtigdlmpjijhpaaaGreat.Ax
open Go Go.RowKit
theorem wja{o:Option Ob}{st:Nat}{rows:List (List AV)}(a:qCa o st=some rows):∃ty e,o=some (.row ty e rows st):=by
 unfold qCa at a
 split at a
 ·split at a
  ·rename_i b
   injection a with a
   subst b a
   exact⟨_,_,rfl⟩
  ·cases a
 ·cases a
def kia:AV->Option Nat
 | .tl id _=>some id
 | .vw a _ _ _=>kia a
 | _=>none
theorem yya{n:Nat}{L:List Ob}:∀(r:AV) {rows:List (List AV)},qc (List.replicate n .gone++L) r=some rows->∀id,kia r=some id->n<=id
 | .tl id st,rows,h,i,hi=>by
   injection hi with hi
   subst hi
   apply Classical.byContradiction
   intro c
   have:(List.replicate n Ob.gone++L)[id]? =some .gone:=by
    rw[zN (by rw[ja];omega),List.getElem?_replicate,if_pos (by omega)]
   rw[q8,this] at h
   cases h
 | .vw a e i k,rows,h,id,hi=>by
   rw[vC] at h
   cases b:qc (List.replicate n .gone++L) a with
   | none=>rw[b] at h;cases h
   | some ys=>exact yya a b id hi
 | .v _,_,_,_,hi | .sl _ _,_,_,_,hi | .em,_,_,_,hi | .ptr _ _,_,_,_,hi | .ep _ _ _ _,_,_,_,hi | .mp _,_,_,_,hi | .ag _,_,_,_,hi | .tup _,_,_,_,hi | .fn _ _ _,_,_,_,hi | .bad,_,_,_,hi=>by cases hi
section
variable {B:Nat} {w:World} {g:Gh} {h L:List Ob}
theorem Xma{b:Nat}(k:kept g h b):kept g (h++L) b:=by
 obtain⟨i,o,c,a⟩:=k
 exact⟨i,o,ze c,a⟩
theorem zea(J:HOk B w g (h++L)):∀(r:AV) {A:Addr} {n k:Nat} {rows:List (List AV)} {e:Nat},AR (ctx w g (h++L)) r (.slice (some A) n k)->qc (h++L) r=some rows->eOf (h++L) r=some e->0<e->rows≠[]->(∀id,kia r=some id->h.length<=id)->¬ kept g h A.block
 | .sl y xs,A,n,k,rows,e,l,b,f,h0,j,d=>by
   obtain⟨A',k',t,R,N⟩:=l
   injection t with t o H
   subst t
   injection b with b
   subst b
   injection f with f
   subst f
   cases xs with
   | nil=>exact absurd rfl j
   | cons x xs=>
     obtain⟨⟨P,E⟩,_⟩:=N
     cases x with
     | nil=>simp at P;omega
     | cons c x=>
       obtain⟨⟨G,u,C,Y,_⟩,_⟩:=E
       injection C with C
       subst C
       intro S
       refine Y.1 ?_
       have:(A.add (0*y)).block=A.block:=by unfold Addr.add;split<;>rfl
       rw[this]
       exact Xma S
 | .tl id st,A,n,k,rows,e,l,b,f,h0,j,d=>by
   rw[q8] at b
   obtain⟨ty,y,K⟩:=wja b
   have E:=Qh l K
   rintro ⟨i,p,I,W⟩
   have O:=vP I
   have hid:=d id rfl
   refine J.apart i id p _ A.block (by omega) (ze I) K W ?_
   show(g.cur id).ownBlock=_
   rw[<-E];rfl
 | .vw a y i m,A,n,k,rows,e,l,b,f,h0,j,d=>by
   obtain⟨A0,m0,cp,A',k',t,R,N,o,H,_⟩:=l
   rw[vC] at b
   rw[Q1] at f
   cases z:qc (h++L) a with
   | none=>rw[z] at b;cases b
   | some ys=>
     rw[z] at b
     simp only[Option.bind_some] at b
     split at b
     ·rename_i F
      injection b with b
      cases s:eOf (h++L) a with
      | none=>rw[s] at f;cases f
      | some X=>
        have M:0<m:=by
         apply Classical.byContradiction
         intro M
         have:m=0:=by omega
         subst this
         rw[List.take_zero] at b
         exact j b.symm
        have D:ys≠[]:=by
         intro V
         subst V
         simp at F
         omega
        have U:X=y/\y=e:=by
         rw[s] at f
         simp only[Option.bind_some] at f
         split at f
         ·rename_i q;injection f with f;exact⟨q,f⟩
         ·cases f
        injection o with o h6 h7
        subst h6
        obtain⟨G,Z,T⟩:=H M
        subst Z
        have Q:=zea J a t z s (by omega) D d
        rw[T] at o
        injection o with o
        have:A.block=G.block:=by rw[o];unfold Addr.add;split<;>rfl
        rw[this]
        exact Q
     ·cases b
 | .v x,A,n,k,rows,e,l,b,f,h0,j,d=>by
   have l:Value.slice (some A) n k=x:=l
   subst l
   cases b
 | .em,_,_,_,_,_,_,b,_,_,j,_=>by injection b with b;exact absurd b.symm j
 | .ptr _ _,_,_,_,_,_,_,b,_,_,_,_ | .ep _ _ _ _,_,_,_,_,_,_,b,_,_,_,_ | .mp _,_,_,_,_,_,_,b,_,_,_,_ | .ag _,_,_,_,_,_,_,b,_,_,_,_ | .tup _,_,_,_,_,_,_,b,_,_,_,_ | .fn _ _ _,_,_,_,_,_,_,b,_,_,_,_ | .bad,_,_,_,_,_,_,b,_,_,_,_=>by cases b
theorem J6(H:HOk B w g (h++L)){r:AV}{u:Value}{rows:List (List AV)}{e:Nat}(F:0<e)(J:AR (ctx w g (h++L)) r u)(E:SlOf (h++L) r e rows)(d:∀id,kia r=some id->h.length<=id)(N:qO h.length rows=true):AR (ctx w g h) (.sl e rows) u:=by
 obtain⟨A,k,v,K,M,R⟩:=wA H r J E.rows
 by_cases s:rows=[]
 ·subst s
  exact⟨A,k,v,K,True.intro⟩
 have n:=E.ee s
 have q:=M e n
 refine⟨A,k,v,K,?_⟩
 have Q:∃a0,A=some a0:=by
  cases rows with
  | nil=>exact absurd rfl s
  | cons x xs=>
    have b:=q.len x (by simp)
    cases x with
    | nil=>simp at b;omega
    | cons c x=>
      obtain⟨G,t,p,_⟩:=q.cell 0 0 (c::x) c rfl rfl
      exact⟨G,p⟩
 obtain⟨a0,rfl⟩:=Q
 subst v
 have D:=zea H r J E.rows n F s d
 have f:=vB w g h L
 have cells:∀(i:Nat) (x:List AV),rows[i]? =some x->qy h.length x=true->∀(y:List AV) (k0:Nat),(∀j a,y[j]? =some a->x[k0+j]? =some a)->qy h.length y=true->ACells (ctx w g h) (some a0) (i*e+k0) y:=by
  intro i x m _ y
  induction y with
  | nil=>intro _ _ _;trivial
  | cons c y C=>
    intro k0 o b
    have b:c.lt h.length=true/\qy h.length y=true:=by simpa [qy] using b
    have I:=o 0 c rfl
    rw[Nat.add_zero] at I
    obtain⟨G,t,p,P,O⟩:=q.cell i k0 x c m I
    injection p with p
    subst p
    refine⟨⟨a0,t,rfl,⟨?_,P⟩,AR.less f c t b.1 O⟩,?_⟩
    ·have:(a0.add (i*e+k0)).block=a0.block:=by unfold Addr.add;split<;>rfl
     rw[this]
     exact D
    ·have:=C (k0+1) (λj a l=>by
      have:=o (j+1) a l
      rw[show k0+(j+1)=k0+1+j by omega] at this
      exact this) b.2
     rw[show i*e+k0+1=i*e+(k0+1) by omega]
     exact this
 have all:∀(ys:List (List AV)) (i:Nat),(∀j x,ys[j]? =some x->rows[i+j]? =some x)->qO h.length ys=true->ARows (ctx w g h) (some a0) e i ys:=by
  intro ys
  induction ys with
  | nil=>intro _ _ _;trivial
  | cons x ys C=>
    intro i o b
    have b:qy h.length x=true/\qO h.length ys=true:=by simpa [qO] using b
    have m:=o 0 x rfl
    rw[Nat.add_zero] at m
    refine⟨⟨q.len x (qr m),?_⟩,C (i+1) (λj z l=>by
     have:=o (j+1) z l
     rw[show i+(j+1)=i+1+j by omega] at this
     exact this) b.2⟩
    have:=cells i x m b.1 x 0 (λj a l=>by rw[Nat.zero_add];exact l) b.1
    simpa using this
 exact all rows 0 (λj x l=>by rw[Nat.zero_add];exact l) N
end
theorem New.root{h L:List Ob}{e:Nat}{x:AV}{rows:List (List AV)}(k:New h e x rows L):∀id,kia x=some id->h.length<=id:=
 yya (L:=L) x (k (List.replicate h.length .gone) (by simp)).rows
variable {P:Program} {f:FuncId} {ar:List AV} {h:List Ob}
theorem xk{e:Nat}{rows:List (List AV)}(n:0<e)(p:qO h.length rows=true)(c:ACalls P f ar h λr h'=>∃L,h'=h++L/\NoRes L/\New h e r rows L):ACalls P f ar h λr h'=>r= .sl e rows/\h'=h:=by
 refine⟨c.1,⟨_,_,⟨rfl,rfl⟩,.refl⟩,λφ i B w g vs l hB b=>?_⟩
 refine(c.2.2 φ i B w g vs l hB b).mono λq w' ⟨v,r,h',g',o,⟨L,m,_,j⟩,_,d,k⟩=>?_
 subst m
 rw[xc i] at d k
 have a:(fill φ h).length=h.length:=ju
 refine⟨v,_,h,g',o,⟨rfl,rfl⟩,.refl,d.drop rfl (by have:=l.ids;exact this),?_⟩
 refine J6 d.ok n k (j _ a) (λid hid=>by rw[a];exact j.root id hid) (by rw[a];exact p)
theorem kja{e d:Nat}{rows b:List (List AV)}(q:0<e)(p:0<d)(x:qO h.length rows=true)(k:qO h.length b=true)(c:ACalls P f ar h λr h'=>∃L y z,h'=h++L/\NoRes L/\r= .tup [y,z]/\New h e y rows L/\New h d z b L):ACalls P f ar h λr h'=>r= .tup [.sl e rows,.sl d b]/\h'=h:=by
 refine⟨c.1,⟨_,_,⟨rfl,rfl⟩,.refl⟩,λφ o B w g vs n hB i=>?_⟩
 refine(c.2.2 φ o B w g vs n hB i).mono λH w' ⟨v,r,h',g',t,⟨L,y,z,D,_,s,n1,n2⟩,_,j,m⟩=>?_
 subst D s
 rw[xc o] at j m
 have a:(fill φ h).length=h.length:=ju
 obtain⟨us,rfl,u,G,F,a1,E,A,C,a2,l⟩:=m
 have l:A=[]:=l
 subst l C
 refine⟨_,_,h,g',t,⟨rfl,rfl⟩,.refl,j.drop rfl (by have:=n.ids;exact this),us,rfl,?_⟩
 rw[F]
 exact⟨u,_,rfl,J6 j.ok q a1 (n1 _ a) (λid hid=>by rw[a];exact n1.root id hid) (by rw[a];exact x),E,_,rfl,J6 j.ok p a2 (n2 _ a) (λid hid=>by rw[a];exact n2.root id hid) (by rw[a];exact k),rfl⟩
def WeakV(r a:AV):Prop:=∀(c:Ctx) (v:Value),AR c r v->AR c a v
theorem WeakV.refl(r:AV):WeakV r r:=λ_ _ h=>h
theorem WeakV.nil(e:Nat):WeakV (.v (.slice none 0 0)) (.sl e []):=λ_ v h=>by
 have h:v= .slice none 0 0:=h
 subst h
 exact⟨none,0,rfl,zp _,True.intro⟩
theorem WeakV.two{a d b b':AV}(j:WeakV a d)(g:WeakV b b'):WeakV (.tup [a,b]) (.tup [d,b']):=λc v ⟨vs,e,x,r,k,a1,y,f,h,a2,i⟩=>⟨vs,e,x,r,k,j c x a1,y,f,h,g c y a2,i⟩
theorem wN{R e:AV->List Ob->Prop}(c:ACalls P f ar h R)(i:∀r h',R r h'->∃b,e b h'/\WeakV r b):ACalls P f ar h e:=by
 refine⟨c.1,?_,λφ l B w g vs q hB a=>?_⟩
 ·obtain⟨r,h',s,t⟩:=c.2.1
  obtain⟨b,d,_⟩:=i r h' s
  exact⟨b,h',d,t⟩
 ·refine(c.2.2 φ l B w g vs q hB a).mono λu w' ⟨v,r,h',g',p,m,n,k,o⟩=>?_
  obtain⟨b,d,j⟩:=i r h' m
  exact⟨v,b,h',g',p,d,n,k,j _ _ o⟩
theorem Ko{e:Nat}{rows:List (List AV)}(c:ACalls P f ar h λr h'=>(r= .sl e rows∨r= .v (.slice none 0 0)/\rows=[])/\h'=h):ACalls P f ar h λr h'=>r= .sl e rows/\h'=h:=
 wN c λr h' ⟨q,a⟩=>by
  rcases q with rfl|⟨rfl,rfl⟩
  ·exact⟨_,⟨rfl,a⟩,.refl _⟩
  ·exact⟨_,⟨rfl,a⟩,.nil e⟩
theorem Vh{rs:List ResultVar}{T:Env}{h0 h':List Ob}{ty e:Nat}{x:AV}{rows:List (List AV)}(c:VE P T h' rs=some x)(b:Pre h0 h')(d:OwnS h0 h' ty e x rows):vCa P rs h0 (λr h''=>∃L,h''=h0++L/\NoRes L/\New h0 e r rows L) .ret T h':=by
 obtain⟨L,rfl,a⟩:=b
 exact⟨x,c,.inl ⟨L,rfl,a,d.new (zp _)⟩⟩
end Go.Proofs.YtigdlmpjijhpaaaGreat.Ax
namespace Go.Proofs.YtigdlmpjijhpaaaGreat.Ax
open Go Go.Proofs
set_option maxRecDepth 100000
def spv(l:List Spn):AV:= .sl 2 (l.map qJ)
theorem j5{h:List Ob}(l:List Spn):SlOf h (spv l) 2 (l.map qJ):=⟨rfl,λ_=>rfl⟩
theorem Xna{h:List Ob}(l:List Spn):qc h (spv l)=some (l.map qJ):=rfl
theorem jfb{h:List Ob}(l:List Spn):eOf h (spv l)=some 2:=rfl
theorem VIa(l:List Spn):AV.one (spv l)=true:=rfl
theorem Qda(l:List Spn):AV.cells (spv l)=some [spv l]:=rfl
theorem Je{n:Nat}:∀l:List Spn,qO n (l.map qJ)=true
 | []=>rfl
 | s::l=>by
   rw[List.map_cons,qO,Je l];rfl
theorem J7{n:Nat}(l:List Spn):(spv l).lt n=true:=Je l
attribute [go_sem] Xna jfb VIa Qda
theorem J8(h:List Ob)(x:AV)(l:List Spn)(a:SlOf h x 2 (l.map qJ))(b:l.length<1099511627776):
  ACalls Tryz.prog 70 [x] h λr h'=>r=spv (qx l)/\h'=h:=xk (by decide) (Je _) (c65 h x l a b)
theorem Jf{l:List Spn}{i:Nat}(h:i<l.length):(l.map qJ)[i]? =some (qJ l[i]):=by rw[zz,zi h];rfl
theorem Xoa{h:List Ob}{i id ty d e st:Nat}{cs:List AV}{rows:List (List AV)}(c:h[i]? =some (.box ty cs))(b:h[id]? =some (.row d e rows st))(M:List Ob)(o:Ob):((h++M).set id o)[i]? =some (.box ty cs):=by
 have a:id≠i:=λq=>by rw[q,c] at b;cases b
 rw[zc a]
 exact ze c
theorem Y9a(h:List Ob)(x y:AV)(a b:List Spn)(hx:SlOf h x 2 (a.map qJ))(hy:SlOf h y 2 (b.map qJ))(ha:a.length<1048576)(hb:b.length<1048576):
  ACalls Tryz.prog 192 [x,y] h λr h'=>r=spv (Vf a b)/\h'=h:=by
 refine zj Tryz.f192 [.tmp 4] 42 rfl rfl rfl rfl rfl rfl (by decide) (⟨_,_,⟨rfl,rfl⟩,.refl⟩) λB=>?_
 simp only[go_sem]
 refine zh (J8 _ x a hx (by omega)) ?_
 rintro _ H ⟨rfl,rfl⟩
 obtain⟨u,hu⟩:∃u,u=qx a:=⟨_,rfl⟩
 obtain⟨v,V⟩:∃v,v=qx b:=⟨_,rfl⟩
 have ο:u.length<1048576:=by have:=qm a;rw[hu];omega
 have ξ:v.length<1048576:=by have:=qm b;rw[V];omega
 rw[<-hu]
 have hand:Vf a b=qx (Zg u v):=by rw[hu,V];rfl
 rw[hand]
 simp only[go_sem,zb]
 refine zO (by decide) (λm T h'=>∃i:Nat,i<=u.length/\Pre H h'/\OwnS H h' 143 2 (T 5) ((Zg (u.take i) v).map qJ)/\T 1=y/\T 11=spv u/\T 12=i64 u.length/\T 13=i64 i/\m=u.length - i) u.length
  ⟨0,by omega,Pre.refl,.inl ⟨by simp only[go_sem],rfl⟩,by simp only[go_sem],by simp only[go_sem],by(simp only[go_sem]<;>rfl),by(simp only[go_sem]<;>rfl),rfl⟩ ?_
 rintro m T h' ⟨i,hi,l,s,t1,g,d,c,rfl⟩
 simp only[go_sem,d,c]
 refine ways (λe=>?_) (λe=>?_)
 ·have K:=dlt e
  have C:=Jf K
  have W:(i:Int)<u.length:=by omega
  have o:=wia (u.take i) v u[i]
  rw[zE K] at o
  have t:(Zg (u.take i) v).length<=1048576*1048576:=by
   rw[qPa,zH]
   exact Nat.mul_le_mul (by omega) (by omega)
  obtain⟨z,hz⟩:∃z,z=u[i]:=⟨_,rfl⟩
  rw[<-hz] at C o
  obtain⟨I,Z⟩:∃I,I=Zg (u.take i) v:=⟨_,rfl⟩
  rw[<-Z] at s o t
  simp only[go_sem,t1,g,c,C,W,zb,Int.toNat_natCast,zf]
  refine zh (J8 _ y b ((l.app (zD rfl)).sl hy) (by omega)) ?_
  rintro _ h6 ⟨rfl,rfl⟩
  rw[<-V]
  simp only[go_sem,zb]
  obtain⟨G,p⟩:∃G,G=h'++[Ob.box 143 (qJ z)]:=⟨_,rfl⟩
  rw[show h'++[Ob.box 143 [i64 z.from_,i64 z.to_]]=G from p.symm]
  have S:G[h'.length]? =some (.box 143 (qJ z)):=by rw[p];exact zK rfl
  have γ:=l.len
  have P:Pre H G:=by rw[p];exact l.app (zD rfl)
  have N:OwnS H G 143 2 (T 5) (I.map qJ):=by rw[p];exact s.app _
  refine zO (by decide) (λm n J=>∃j:Nat,j<=v.length/\Pre H J/\OwnS H J 143 2 (n 5) ((I++(v.take j).map (ZH z)).map qJ)/\J[h'.length]? =some (.box 143 (qJ z))/\n 1=y/\n 7= .ptr h'.length 0/\n 11=spv u/\n 12=i64 u.length/\n 13=i64 i/\n 18=spv v/\n 19=i64 v.length/\n 20=i64 j/\m=v.length - j) v.length
   ⟨0,by omega,P,by(simp only[go_sem];simpa using N),S,by simp only[go_sem,t1],by simp only[go_sem],by simp only[go_sem,g],by simp only[go_sem,d],by simp only[go_sem,c],by simp only[go_sem],by(simp only[go_sem]<;>rfl),by(simp only[go_sem]<;>rfl),rfl⟩ ?_
  clear l s P N t1 g d c S
  rintro m n J ⟨j,hj,l,s,R,t1,t7,g,d,c,Q,F,D,rfl⟩
  simp only[go_sem,F,D]
  refine ways (λe=>?_) (λe=>?_)
  ·have A:=dlt e
   have f:=Jf A
   have w:(j:Int)<v.length:=by omega
   have k:(v.take (j+1)).map (ZH z)=(v.take j).map (ZH z)++[ZH z v[j]]:=by rw[<-zE A,zw];rfl
   obtain⟨q,hq⟩:∃q,q=v[j]:=⟨_,rfl⟩
   rw[<-hq] at f k
   have hA:List.length (qJ (ZH z q))=2:=rfl
   have O:∀M,(J++M)[h'.length]? =some (.box 143 (qJ z)):=λM=>ze R
   have E:(I.length+min j v.length+1)*17<=140737488355328:=by omega
   rcases s with⟨t5,U⟩|⟨id,st,u1,t5,u3⟩
   ·simp only[go_sem,t5,t7,Q,D,O,f,w,zb,Int.toNat_natCast,zf,Q6,Q5]
    refine⟨v.length - (j+1),by omega,j+1,by omega,l.app (zl rfl (zl rfl (zD rfl))),.inr ⟨_,_,by have:=l.len;omega,rfl,?_⟩,t1,g,d,c,F,qn (by omega) rfl,rfl⟩
    rw[k, <-zr,zw,U,zG rfl]
    rfl
   ·have hg:∀M,(J++M)[id]? =some (.row 143 2 ((I++(v.take j).map (ZH z)).map qJ) st):=λM=>ze u3
    simp only[go_sem,t5,t7,Q,D,O,hg,E,f,w,zb,zH,Int.toNat_natCast,zf,Q6,Q5]
    refine⟨v.length - (j+1),by omega,j+1,by omega,(l.app (zl rfl (zD rfl))).set u1 rfl,.inr ⟨id,st+1,u1,rfl,?_⟩,Xoa R u3 _ _,t1,g,d,c,F,qn (by omega) rfl,rfl⟩
    rw[k, <-zr,zw (l₂:=[ZH z q])]
    exact zm (hg _)
  ·have X:=xr e
   have α:j=v.length:=by omega
   subst α
   rw[zV, <-o] at s
   simp only[go_sem,c]
   exact⟨u.length - (i+1),by omega,i+1,by omega,l,s,t1,g,d,qn (by omega) rfl,rfl⟩
 ·have X:=xr e
  have Y:i=u.length:=by omega
  subst Y
  rw[zV] at s
  have t:(Zg u v).length<=1048575*1048575:=by
   rw[qPa]
   exact Nat.mul_le_mul (by omega) (by omega)
  simp only[go_sem]
  refine zh (J8 _ _ (Zg u v) s.rows (by omega)) ?_
  rintro _ h6 ⟨rfl,rfl⟩
  simp only[go_sem]
  obtain⟨L,rfl,_⟩:=l
  exact Xq (by simp only[go_sem]) (J7 _)
theorem yza(h:List Ob)(x:AV)(l:List Spn)(a:SlOf h x 2 (l.map qJ))(b:l.length<1048576):
  ACalls Tryz.prog 22 [x] h λr h'=>r=i64 (jQ (qx l))/\h'=h:=c30 h x l a b
def vj(l:List Spn)(n size:Int):List Spn:=if n<0∨n>32054400 / size then [] else Vf l [⟨n*size,(n+1)*size⟩]
theorem zab(h:List Ob)(x:AV)(l:List Spn)(n size:Int)(i:SlOf h x 2 (l.map qJ))(o:l.length<1048576)(e:size=86400∨size=604800):
  ACalls Tryz.prog 189 [x,i64 n,i64 size] h λr h'=>(r=spv (vj l n size)∨r= .v (.slice none 0 0)/\vj l n size=[])/\h'=h:=by
 have f:IntKind.wrap .i64 (Int.tdiv 32054400 size)=32054400 / size:=by rcases e with rfl|rfl<;>rfl
 have h0:¬ size=0:=by omega
 have j:32054400 / size<=371:=by rcases e with rfl|rfl<;>decide
 have hex:∃r h',((r=spv (vj l n size)∨r=AV.v (.slice none 0 0)/\vj l n size=[])/\h'=h)/\ResK h h':=⟨_,_,⟨.inl rfl,rfl⟩,.refl⟩
 refine zj Tryz.f189 [.tmp 6] 26 rfl rfl rfl rfl rfl rfl (by decide) (hex) λB=>?_
 simp only[go_sem]
 cases a:decide (n<0)
 ·have d:¬ n<0:=of_decide_eq_false a
  cases c:decide (n>32054400 / size)
  ·have g:¬ n>32054400 / size:=of_decide_eq_false c
   have b:vj l n size=Vf l [⟨n*size,(n+1)*size⟩]:=by unfold vj;rw[if_neg (by omega)]
   have q:n*size<=371*604800/\0<=n*size/\(n+1)*size<=372*604800/\0<=(n+1)*size:=by
    rcases e with rfl|rfl<;>omega
   have p:IntKind.wrap .i64 (n*size)=n*size:=qq (n:=n*size) (by unfold Fit;omega)
   have k:IntKind.wrap .i64 (n+1)=n+1:=qq (n:=n+1) (by unfold Fit;omega)
   have m:IntKind.wrap .i64 ((n+1)*size)=(n+1)*size:=qq (n:=(n+1)*size) (by unfold Fit;omega)
   simp only[go_sem,a,c,f,h0,qv,p,k,m]
   refine zh (Y9a _ x _ l [⟨n*size,(n+1)*size⟩] (i.app _) (OwnS.rows (h0:=h) (ty:=143) (.inr ⟨_,_,zp _,rfl,by rw[zK rfl];rfl⟩)) o (by simp)) ?_
   rintro _ s ⟨rfl,rfl⟩
   simp only[go_sem]
   exact⟨spv (vj l n size),by(simp only[go_sem];rw[b]),.inr ⟨h,_,rfl,rfl,J7 _,.refl,.inl rfl,rfl⟩⟩
  ·have g:=of_decide_eq_true c
   have b:vj l n size=[]:=by unfold vj;rw[if_pos (by omega)]
   simp only[go_sem,a,c,f,h0,qv]
   exact⟨_,by simp only[go_sem],.inl ⟨.inr ⟨rfl,b⟩,rfl⟩⟩
 ·have d:=of_decide_eq_true a
  have b:vj l n size=[]:=by unfold vj;rw[if_pos (by omega)]
  simp only[go_sem,a,f,h0,qv]
  exact⟨_,by simp only[go_sem],.inl ⟨.inr ⟨rfl,b⟩,rfl⟩⟩
theorem Yra(h:List Ob)(x:AV)(l:List Spn)(n size:Int)(b:SlOf h x 2 (l.map qJ))(c:l.length<1048576)(a:size=86400∨size=604800):
  ACalls Tryz.prog 189 [x,i64 n,i64 size] h λr h'=>r=spv (vj l n size)/\h'=h:=
 Ko ((zab h x l n size b c a).mono λr h' ⟨q,e⟩=>⟨q.imp_right λq=>⟨q.1,by rw[q.2];rfl⟩,e⟩)
def xl(l:List Spn)(d:Int):List Spn:=vj l d 86400
def jr(l:List Spn)(k:Int):List Spn:=vj l k 604800
theorem wka(h:List Ob)(x:AV)(l:List Spn)(d:Int)(a:SlOf h x 2 (l.map qJ))(b:l.length<1048576):
  ACalls Tryz.prog 241 [x,i64 d] h λr h'=>r=spv (xl l d)/\h'=h:=by
 refine zj Tryz.f241 [.tmp 4] 8 rfl rfl rfl rfl rfl rfl (by decide) (⟨_,_,⟨rfl,rfl⟩,.refl⟩) λB=>?_
 simp only[go_sem]
 refine zh (Yra h x l d 86400 a b (.inl rfl)) ?_
 rintro _ c ⟨rfl,rfl⟩
 simp only[go_sem]
 exact Ke (by simp only[go_sem];rfl)
theorem yAa(h:List Ob)(x:AV)(l:List Spn)(k:Int)(a:SlOf h x 2 (l.map qJ))(b:l.length<1048576):
  ACalls Tryz.prog 117 [x,i64 k] h λr h'=>r=spv (jr l k)/\h'=h:=by
 refine zj Tryz.f117 [.tmp 4] 8 rfl rfl rfl rfl rfl rfl (by decide) (⟨_,_,⟨rfl,rfl⟩,.refl⟩) λB=>?_
 simp only[go_sem]
 refine zh (Yra h x l k 604800 a b (.inr rfl)) ?_
 rintro _ c ⟨rfl,rfl⟩
 simp only[go_sem]
 exact Ke (by simp only[go_sem];rfl)
theorem QD(l:List Spn)(n size:Int):(vj l n size).length<=(qx l).length+1:=by
 unfold vj
 split
 ·simp
 ·have b:=zca l [⟨n*size,(n+1)*size⟩]
  have a:=qm [(⟨n*size,(n+1)*size⟩:Spn)]
  simp at a
  omega
def jW(n:Int):Int:=ofI n 86400
theorem jgb(n:Int):xy Tryz.prog 240 [i64 n] (i64 (jW n)):=λh=>by
 refine zj Tryz.f240 [.tmp 2] 5 rfl rfl rfl rfl rfl rfl (by decide) (⟨_,_,⟨rfl,rfl⟩,.refl⟩) λB=>?_
 simp only[go_sem]
 refine zh (c51 n 86400 (by decide) _) ?_
 rintro _ a ⟨rfl,rfl⟩
 simp only[go_sem]
 refine zn ?_<;>(simp only[go_sem,jW]<;>try rfl)
def ZI:List Spn->List Spn->Int->List Spn
 | o,[],_=>o
 | o,s::r,n=>if n<=0 then o else ZI (o++[Jc s n]) r (n - ((Jc s n).to_ - s.from_))
theorem kka:∀(l o:List Spn) (n:Int),ZI o l n=o++Jd l n
 | [],o,n=>by simp[ZI,Jd]
 | s::r,o,n=>by
   rw[ZI,Jd]
   split
   ·simp
   ·rw[kka r];simp
theorem kla{v o:List Spn}{i:Nat}{n:Int}(hi:i<v.length):ZI o (v.drop i) n=if n<=0 then o else ZI (o++[Jc v[i] n]) (v.drop (i+1)) (n - ((Jc v[i] n).to_ - (v[i]).from_)):=by
 rw[qU hi,ZI]
theorem VJa(h:List Ob)(x:AV)(l:List Spn)(n:Int)(R:SlOf h x 2 (l.map qJ))(Z:l.length<1048576)(V:Fit n):
  ACalls Tryz.prog 187 [x,i64 n] h λr h'=>∃L,h'=h++L/\NoRes L/\New h 2 r ((qP l n).map qJ) L:=by
 have hex:∃r h',(∃L,h'=h++L/\NoRes L/\New h 2 r ((qP l n).map qJ) L)/\ResK h h':=
  ⟨.sl 2 _,_,⟨[],rfl,jm,λ_ _=>⟨rfl,λ_=>rfl⟩⟩,resK_app⟩
 refine zj Tryz.f187 [.tmp 4] 38 rfl rfl rfl rfl rfl rfl (by decide) (hex) λB=>?_
 simp only[go_sem]
 refine zh (J8 _ x l R (by omega)) ?_
 rintro _ H ⟨rfl,rfl⟩
 have d:qP l n=ZI [] ((qx l).drop 0) n:=by rw[kka];rfl
 have q:= @kX l
 rw[d]
 obtain⟨v,F⟩:∃v,v=qx l:=⟨_,rfl⟩
 have Y:v.length<1048576:=by have:=qm l;rw[F];omega
 rw[<-F] at q⊢
 obtain⟨W,N⟩:∃W,W=ZI [] (v.drop 0) n:=⟨_,rfl⟩
 rw[<-N]
 simp only[go_sem,zb]
 refine zO (by decide) (λm T h'=>∃(i:Nat) (o:List Spn) (k:Int),i<=v.length/\o.length<=i/\Fit k/\ZI o (v.drop i) k=W/\Pre H h'/\OwnS H h' 143 2 (T 4) (o.map qJ)/\T 1=i64 k/\T 8=spv v/\T 9=i64 v.length/\T 10=i64 i/\m=v.length - i) v.length
  ⟨0,[],n,by omega,by simp,V,N.symm,Pre.refl,.inl ⟨by simp only[go_sem],rfl⟩,by simp only[go_sem],by simp only[go_sem],by(simp only[go_sem]<;>rfl),by(simp only[go_sem]<;>rfl),rfl⟩ ?_
 rintro m T h' ⟨i,o,k,hi,P,w,a,j,D,t1,t8,t9,t10,rfl⟩
 simp only[go_sem,t9,t10]
 refine ways (λe=>?_) (λe=>?_)
 ·have c:=dlt e
  have b:=Jf c
  have A:(i:Int)<v.length:=by omega
  have X:=q _ (zx c)
  rw[kla c] at a
  obtain⟨z,Q⟩:∃z,z=v[i]:=⟨_,rfl⟩
  rw[<-Q] at b a X
  simp only[go_sem,t1,t8,t10,b,A,zb,Int.toNat_natCast,zf]
  refine ways (λf=>?_) (λf=>?_)
  ·have f:k<=0:=of_decide_eq_true f
   rw[if_pos f] at a
   simp only[go_sem]
   subst a
   exact Vh (by simp only[go_sem]) (j.app (zD rfl)) (D.app _)
  ·have f:¬ k<=0:=of_decide_eq_false f
   rw[if_neg f] at a
   obtain⟨y,E⟩:∃y,y=Jc z k:=⟨_,rfl⟩
   have u:y.from_=z.from_:=by rw[E];rfl
   have p:y.to_=min z.to_ (z.from_+min k 32054400):=by rw[E];rfl
   have K:IntKind.wrap .i64 (z.from_+min k 32054400)=z.from_+min k 32054400:=qq (n:=z.from_+min k 32054400) (by unfold Fit at w ⊢;omega)
   have I:IntKind.wrap .i64 (y.to_ - z.from_)=y.to_ - z.from_:=qq (n:=y.to_ - z.from_) (by unfold Fit at w ⊢;omega)
   have J:IntKind.wrap .i64 (k - (y.to_ - z.from_))=k - (y.to_ - z.from_):=qq (n:=k - (y.to_ - z.from_)) (by unfold Fit at w ⊢;omega)
   have s:Fit (k - (y.to_ - z.from_)):=by unfold Fit at w ⊢;omega
   rw[<-E] at a
   have hA:List.length (qJ y)=2:=rfl
   have g:(o.length+1)*17<=140737488355328:=by omega
   rcases D with⟨t4,t⟩|⟨id,st,G,t4,U⟩
   ·simp only[go_sem,t1,t4,t8,t10,zb,Q5,K, <-p,I,J]
    refine⟨v.length - (i+1),by omega,i+1,o++[y],_,by omega,by simp;omega,s,a,j.app (zl rfl (zl rfl (zD rfl))),.inr ⟨_,_,by have:=j.len;omega,rfl,?_⟩,rfl,t9,qn (by omega) rfl,rfl⟩
    rw[zw,t,zG rfl, <-u]
    rfl
   ·have O:∀M,(h'++M)[id]? =some (.row 143 2 (o.map qJ) st):=λM=>ze U
    simp only[go_sem,t1,t4,t8,t10,O,g,zb,Q5,K, <-p,I,J]
    refine⟨v.length - (i+1),by omega,i+1,o++[y],_,by omega,by simp;omega,s,a,(j.app (zl rfl (zD rfl))).set G rfl,.inr ⟨id,st+1,G,rfl,?_⟩,rfl,t9,qn (by omega) rfl,rfl⟩
    rw[zw, <-u]
    exact zm (O _)
 ·have S:=xr e
  have C:i=v.length:=by omega
  subst C
  rw[List.drop_length,ZI] at a
  subst a
  simp only[go_sem]
  exact Vh (by simp only[go_sem]) j D
theorem jVa(h:List Ob)(x:AV)(l:List Spn)(n:Int)(a:SlOf h x 2 (l.map qJ))(b:l.length<1048576)(c:Fit n):
  ACalls Tryz.prog 187 [x,i64 n] h λr h'=>r=spv (qP l n)/\h'=h:=xk (by decide) (Je _) (VJa h x l n a b c)
end Go.Proofs.YtigdlmpjijhpaaaGreat.Ax
namespace Go.Proofs.YtigdlmpjijhpaaaGreat.Ax
open Go Go.RowKit
structure LIn (F:List (Nat × Ob)) (h0 h:List Ob) (i bty ty e:Nat) (rows:List (List AV)):Prop where
 pre:Pre h0 h
 le:h0.length<=i
 kept:∀z∈F,z.1≠i/\(∃t cs,z.2= .box t cs)/\h[z.1]? =some z.2
 at_:∃x,h[i]? =some (.box bty [x])/\OwnS h0 h ty e x rows
variable {F:List (Nat × Ob)} {h0 h:List Ob} {i bty ty e:Nat} {rows rows':List (List AV)}
theorem LIn.app(k:LIn F h0 h i bty ty e rows){M:List Ob}(b:NoRes M):LIn F h0 (h++M) i bty ty e rows:=by
 obtain⟨k1,k2,k3,x,k4,k5⟩:=k
 exact⟨k1.app b,k2,λz a=>⟨(k3 z a).1,(k3 z a).2.1,ze (k3 z a).2.2⟩,x,ze k4,k5.app M⟩
theorem LIn.lt(k:LIn F h0 h i bty ty e rows):i<h.length:=by
 obtain⟨x,k4,_⟩:=k.at_
 exact(zd.1 k4).1
theorem LIn.push_nil(k:LIn F h0 h i bty ty e rows){M:List Ob}(c:NoRes M){id:Nat}(hid:h.length<=id)(b:(h++M)[id]? =some (.row ty e rows' 0)):LIn F h0 ((h++M).set i (.box bty [.tl id 0])) i bty ty e rows':=by
 have hi:=k.lt
 have d:=k.pre.len
 have k':=k.app c
 refine⟨k'.pre.set k.le rfl,k.le,λz a=>⟨(k.kept z a).1,(k.kept z a).2.1,?_⟩,.tl id 0,?_,.inr ⟨id,0,by omega,rfl,?_⟩⟩
 ·rw[zc (Ne.symm (k.kept z a).1)];exact(k'.kept z a).2.2
 ·rw[zo (by rw[zg];omega)]
 ·rw[zc (by omega)];exact b
theorem LIn.push_own(k:LIn F h0 h i bty ty e rows){M:List Ob}(j:NoRes M){id st:Nat}(hid:h0.length<=id)(a:h[id]? =some (.row ty e rows st)):LIn F h0 (((h++M).set id (.row ty e rows' (st+1))).set i (.box bty [.tl id (st+1)])) i bty ty e rows':=by
 have hi:=k.lt
 have o:=k.pre.len
 have k':=k.app j
 obtain⟨x,f,_⟩:=k.at_
 have c:id≠i:=λq=>by rw[q,f] at a;cases a
 have l:=(zd.1 a).1
 refine⟨(k'.pre.set hid rfl).set k.le rfl,k.le,λz b=>⟨(k.kept z b).1,(k.kept z b).2.1,?_⟩,.tl id (st+1),?_,.inr ⟨id,st+1,hid,rfl,?_⟩⟩
 ·obtain⟨m,⟨t,cs,n⟩,g⟩:=k.kept z b
  have d:id≠z.1:=λq=>by rw[q,g,n] at a;cases a
  rw[zc (Ne.symm m),zc d]
  exact(k'.kept z b).2.2
 ·rw[zo (by rw[zJ,zg];omega)]
 ·rw[zc (Ne.symm c),zo (by rw[zg];omega)]
theorem LIn.any(k:LIn F h0 h i bty ty e rows)(rows':List (List AV)):∃h',LIn F h0 h' i bty ty e rows'/\ResK h h':=by
 have q:=k.push_nil (M:=[.row ty e rows' 0]) (zD rfl) (id:=h.length) (zp _) (by rw[zK rfl];rfl)
 exact⟨_,q,k.pre.resK q.pre⟩
theorem LIn.keep(k:LIn F h0 h i bty ty e rows){z:Nat × Ob}(a:z∈F):h[z.1]? =some z.2:=(k.kept z a).2.2
end Go.Proofs.YtigdlmpjijhpaaaGreat.Ax
namespace Go.Proofs.YtigdlmpjijhpaaaGreat.Ax
open Go Go.Proofs
set_option maxRecDepth 100000
def Jg(o:List Int)(d:Int):List Int:=match o.getLast? with
 | none=>[d]
 | some x=>if x<d then o++[d] else o
theorem Xpa(o:List Int)(d:Int):(Jg o d).length<=o.length+1:=by
 unfold Jg
 split
 ·simp
 ·split<;>simp
def Kp(o:List Int)(a:Int):Nat->List Int
 | 0=>o
 | k+1=>Jg (Kp o a k) (a+k)
theorem zfa(o:List Int)(a:Int):∀k,(Kp o a k).length<=o.length+k
 | 0=>zp _
 | k+1=>by
   have c:=zfa o a k
   have b:=Xpa (Kp o a k) (a+k)
   rw[Kp];omega
def kP(o:List Int)(s:Spn):List Int:=Kp o (jW s.from_) (jW (s.to_ - 1) - jW s.from_+1).toNat
def qR(l:List Spn):List Int:=(qx l).foldl kP []
theorem yC(n:Int):0<=jW n/\jW n<371:=by
 unfold jW ofI qI
 have h0:0<=min (max n 0) 32054399/\min (max n 0) 32054399<=32054399:=by omega
 rw[Int.tdiv_eq_ediv_of_nonneg h0.1,qq (by unfold Fit;omega)]
 omega
theorem kma(o:List Int)(s:Spn):(kP o s).length<=o.length+372:=by
 have b:=zfa o (jW s.from_) (jW (s.to_ - 1) - jW s.from_+1).toNat
 have a:=yC s.from_
 have c:=yC (s.to_ - 1)
 unfold kP
 omega
theorem zbb(F:List (Nat × Ob))(h0 h:List Ob)(i:Nat)(o:List Int)(d:Int)(k:LIn F h0 h i 27 3 1 (o.map qz))(J:o.length<1099511627776):
  ACalls Tryz.prog 239 [i64 d,.ptr i 0] h λr h'=>r= .tup []/\LIn F h0 h' i 27 3 1 ((Jg o d).map qz):=by
 have hex:∃r h',(r=AV.tup []/\LIn F h0 h' i 27 3 1 ((Jg o d).map qz))/\ResK h h':=by
  obtain⟨h',I,G⟩:=k.any ((Jg o d).map qz)
  exact⟨_,h',⟨rfl,I⟩,G⟩
 obtain⟨x,e,l⟩:=k.at_
 have j:qc h x=some (o.map qz):=l.rows.rows
 have K:List.length (qz d)=1:=rfl
 have c:(o.length+1)*9<=140737488355328:=by omega
 refine zj Tryz.f239 [] 21 rfl rfl rfl rfl rfl rfl (by decide) (hex) λB=>?_
 simp only[go_sem,e,j,zb]
 rcases l with⟨rfl,p⟩|⟨id,st,D,rfl,g⟩
 ·have u:o=[]:=by simpa using p
  subst u
  have b:∀M,(h++M)[i]? =some (.box 27 [.v (.slice none 0 0)]):=λM=>ze e
  simp only[go_sem,e,b]
  exact⟨_,rfl,.inl ⟨rfl,k.push_nil (zl rfl (zD rfl)) (by omega) (by rw[zG (k:=1) rfl];rfl)⟩⟩
 ·have C:∀M,(h++M)[id]? =some (.row 3 1 (o.map qz) st):=λM=>ze g
  have b:∀M,(h++M)[i]? =some (.box 27 [.tl id st]):=λM=>ze e
  have s:id≠i:=λq=>by rw[q,e] at g;cases g
  have f:∀M o',((h++M).set id o')[i]? =some (.box 27 [.tl id st]):=λM o'=>by
   rw[zc s];exact b M
  have app:∀M,NoRes M->Jg o d=o++[d]->LIn F h0 (((h++M).set id (.row 3 1 (o.map qz++[[i64 d]]) (st+1))).set i (.box 27 [.tl id (st+1)])) i 27 3 1 ((Jg o d).map qz):=λM E q=>by
   rw[q,zw]
   exact k.push_own E D g
  cases a:o.getLast? with
  | none=>
    have u:o=[]:=by simpa using a
    subst u
    simp only[go_sem,e]
    simp only[go_sem,b,C,c,f]
    exact⟨_,rfl,.inl ⟨rfl,app _ (zD rfl) rfl⟩⟩
  | some z=>
    have A:0<o.length:=by cases o with|nil=>cases a|cons _ _=>simp
    have y:(o.map qz)[o.length - 1]? =some [i64 z]:=by
     rw[zz]
     rw[List.getLast?_eq_getElem?] at a
     rw[a];rfl
    have m:((o.length:Int)==0)=false:=by rw[beq_eq_false_iff_ne];omega
    have w:IntKind.wrap .i64 ((o.length:Int) - 1)=((o.length - 1:Nat):Int):=K4 (by omega) (by omega)
    have n:((o.length - 1:Nat):Int)<o.length:=by omega
    have j:qc h (.tl id st)=some (o.map qz):=j
    have H:eOf h (.tl id st)=some 1:=by rw[jO,g,wg]
    cases q:decide (z<d)
    ·have t:Jg o d=o:=by unfold Jg;rw[a];simp only;rw[if_neg (of_decide_eq_false q)]
     simp only[go_sem,m,e,g,w,y,n,qv,q,zb,Int.toNat_natCast,zf]
     exact⟨_,rfl,.inl ⟨rfl,by rw[t];exact k⟩⟩
    ·have t:Jg o d=o++[d]:=by unfold Jg;rw[a];simp only;rw[if_pos (of_decide_eq_true q)]
     simp only[go_sem,m,e,g,w,y,n,qv,q,zb,Int.toNat_natCast,zf]
     simp only[go_sem,b,C,c,f,zb]
     exact⟨_,rfl,.inl ⟨rfl,app _ (zD rfl) t⟩⟩
theorem zcb(h:List Ob)(x:AV)(l:List Spn)(V:SlOf h x 2 (l.map qJ))(hl:l.length<1048576):
  ACalls Tryz.prog 182 [x] h λr h'=>∃L,h'=h++L/\NoRes L/\New h 1 r ((qR l).map qz) L:=by
 have hex:∃r h',(∃L,h'=h++L/\NoRes L/\New h 1 r ((qR l).map qz) L)/\ResK h h':=
  ⟨.sl 1 _,_,⟨[],rfl,jm,λ_ _=>⟨rfl,λ_=>rfl⟩⟩,resK_app⟩
 refine zj Tryz.f182 [.cell 2 27] 37 rfl rfl rfl rfl rfl rfl (by decide) (hex) λB=>?_
 simp only[go_sem]
 refine zh (J8 _ x l (V.app _) (by omega)) ?_
 rintro _ h4 ⟨rfl,rfl⟩
 have t:qR l=((qx l).take (qx l).length).foldl kP []:=by rw[zV];rfl
 have C:= @kX l
 rw[t]
 obtain⟨v,N⟩:∃v,v=qx l:=⟨_,rfl⟩
 have η:v.length<1048576:=by have:=qm l;rw[N];omega
 rw[<-N] at C⊢
 obtain⟨W,S⟩:∃W,W=(v.take v.length).foldl kP []:=⟨_,rfl⟩
 rw[<-S]
 simp only[go_sem,zb]
 refine zO (by decide) (λm T h'=>∃(i:Nat) (o:List Int),i<=v.length/\o=(v.take i).foldl kP []/\o.length<=372*i/\LIn [] h h' h.length 27 3 1 (o.map qz)/\T 2= .ptr h.length 0/\T 3= .fn (.func 239) [] [.ptr h.length 0]/\T 10=spv v/\T 11=i64 v.length/\T 12=i64 i/\m=v.length - i) v.length
  ⟨0,[],by omega,rfl,by simp,⟨⟨_,rfl,zD rfl⟩,zp _,(λz G=>by cases G),_,by rw[zK rfl];rfl,.inl ⟨rfl,rfl⟩⟩,by simp only[go_sem],by simp only[go_sem],by simp only[go_sem],by(simp only[go_sem]<;>rfl),by(simp only[go_sem]<;>rfl),rfl⟩ ?_
 rintro m T h' ⟨i,o,hi,K,U,k,t2,t3,t10,d,b,rfl⟩
 simp only[go_sem,d,b]
 refine ways (λe=>?_) (λe=>?_)
 ·have p:=dlt e
  have g:=Jf p
  have E:(i:Int)<v.length:=by omega
  have hb:=C _ (zx p)
  have w:(v.take (i+1)).foldl kP []=kP o v[i]:=by rw[<-zE p,qK, <-K];rfl
  obtain⟨z,G⟩:∃z,z=v[i]:=⟨_,rfl⟩
  rw[<-G] at g w hb
  simp only[go_sem,t10,b,g,E,zb,Int.toNat_natCast,zf]
  refine zh (jgb z.from_ _) ?_
  rintro _ O ⟨rfl,rfl⟩
  have w1:IntKind.wrap .i64 (z.to_ - 1)=z.to_ - 1:=qq (n:=z.to_ - 1) (by unfold Fit;omega)
  simp only[go_sem,w1]
  refine zh (jgb (z.to_ - 1) _) ?_
  rintro _ O ⟨rfl,rfl⟩
  have r1:=yC z.from_
  have r2:=yC (z.to_ - 1)
  have w2:IntKind.wrap .i64 (jW (z.to_ - 1) - jW z.from_)=jW (z.to_ - 1) - jW z.from_:=qq (n:=jW (z.to_ - 1) - jW z.from_) (by unfold Fit;omega)
  have w3:IntKind.wrap .i64 (jW (z.to_ - 1) - jW z.from_+1)=jW (z.to_ - 1) - jW z.from_+1:=qq (n:=jW (z.to_ - 1) - jW z.from_+1) (by unfold Fit;omega)
  simp only[go_sem,w2,w3]
  obtain⟨a,F⟩:∃a,a=jW z.from_:=⟨_,rfl⟩
  obtain⟨c,Q⟩:∃c,c=jW (z.to_ - 1) - jW z.from_+1:=⟨_,rfl⟩
  have y:kP o z=Kp o a c.toNat:=by unfold kP;rw[F,Q]
  rw[show jW (z.to_ - 1) - jW z.from_+1=c from Q.symm,show jW z.from_=a from F.symm]
  rw[<-F] at r1
  have Y:c<=371:=by omega
  refine zO (by decide) (λm f M=>∃j:Nat,j<=c.toNat/\LIn [] h M h.length 27 3 1 ((Kp o a j).map qz)/\f 2= .ptr h.length 0/\f 3= .fn (.func 239) [] [.ptr h.length 0]/\f 6=i64 a/\f 10=spv v/\f 11=i64 v.length/\f 12=i64 i/\f 25=i64 c/\f 26=i64 j/\m=c.toNat - j) c.toNat
   ⟨0,by omega,k.app (zD rfl),by simp only[go_sem,t2],by simp only[go_sem,t3],by simp only[go_sem],by simp only[go_sem,t10],by simp only[go_sem,d],by simp only[go_sem,b],by simp only[go_sem],by(simp only[go_sem]<;>rfl),rfl⟩ ?_
  clear k t2 t3 t10 d b
  rintro m f M ⟨j,hj,k,t2,t3,t6,t10,d,b,t25,s,rfl⟩
  simp only[go_sem,t25,s]
  refine ways (λe=>?_) (λe=>?_)
  ·have R:(j:Int)<c:=of_decide_eq_true e
   have Z:IntKind.wrap .i64 (a+j)=a+j:=qq (n:=a+j) (by unfold Fit;omega)
   have δ:=zfa o a j
   simp only[go_sem,t3,t6,s,Z]
   refine zh (zbb [] h M h.length (Kp o a j) (a+j) k (by omega)) ?_
   rintro _ O ⟨rfl,k6⟩
   simp only[go_sem,s]
   exact⟨c.toNat - (j+1),by omega,j+1,by omega,k6,t2,t3,t6,t10,d,b,t25,qn (by omega) rfl,rfl⟩
  ·have H:¬ (j:Int)<c:=of_decide_eq_false e
   have J:j=c.toNat:=by omega
   subst J
   simp only[go_sem,b]
   have X:=kma o z
   exact⟨v.length - (i+1),by omega,i+1,kP o z,by omega,w.symm,by omega,by rw[y];exact k,t2,t3,t10,d,qn (by omega) rfl,rfl⟩
 ·have H:=xr e
  have I:i=v.length:=by omega
  subst I
  rw[<-S] at K
  subst K
  obtain⟨P,q,u⟩:=k.at_
  have A:=k.pre
  have D:AV.cells P=some [P]:=u.rows.cells
  simp only[go_sem,t2,q,D]
  rw[qS q]
  exact Vh (by simp only[go_sem,t2,q]) A u
theorem yD{n:Nat}:∀l:List Int,qO n (l.map qz)=true
 | []=>rfl
 | s::l=>by
   rw[List.map_cons,qO,yD l];rfl
theorem Xqa(h:List Ob)(x:AV)(l:List Spn)(a:SlOf h x 2 (l.map qJ))(b:l.length<1048576):
  ACalls Tryz.prog 182 [x] h λr h'=>r= .sl 1 ((qR l).map qz)/\h'=h:=xk (by decide) (yD _) (zcb h x l a b)
end Go.Proofs.YtigdlmpjijhpaaaGreat.Ax
namespace Go.Proofs.YtigdlmpjijhpaaaGreat.Ax
open Go Go.RowKit
section
variable {P:Program} {ops:Array Oper} {Q:Exit->Act->World->Prop}
theorem XX(l n:Nat){o:Oper}{a:Act}{w:World}{K K':Act->World->Prop}(p:∀c,o.op≠ .defer c)(d:∀a w,K a w->K' a w)(h:o.wpIn Fence.wide n P a w K Q):o.wpIn (Fence.wide.inRound l) n P a w K' Q:=by
 unfold Oper.wpIn at h⊢
 refine⟨λ_ _=>trivial,?_⟩
 have h:=h.2
 rw[Oper.semAt_eq _ _ _ p] at h⊢
 generalize (execOp a.eval o).run P w=r at h⊢
 have b:∀row args w' (R i:Value->World->Prop),(∀v w,R v w->i v w)->RowsIn Fence.wide (n - 1) P row args w' R->RowsIn (Fence.wide.inRound l) (n - 1) P row args w' i:=λrow args w' R i t h c cs k=>by
  obtain⟨v,j,m,s⟩:=h c cs (room_wide _)
  exact⟨v,j,t _ _ m,s⟩
 cases r with
 | ok x w'=>
   cases x with
   | value v=>exact d _ _ h
   | skip=>exact d _ _ h
   | enter f ar=>exact⟨λg=>(by cases g),CallsIn.inRound l (h.2.mono λe j q=>by cases e<;>first|exact d _ _ q|exact q)⟩
   | row r ar=>exact⟨λg=>(by cases g),b _ _ _ _ _ (λ_ _=>d _ _) h.2⟩
   | round l' f u aZ y=>exact⟨λg=>(by cases g),(show RoundIn Fence.wide _ P l' f u aZ y _ _ from h.2.mono λe j q=>by cases e<;>first|exact d _ _ q|exact q)⟩
   | _=>first|exact h|exact h.elim|exact d _ _ h
 | halt x w'=>
   cases x<;>first|exact h|exact h.elim
def XD(ops:Array Oper):Bool:=ops.toList.all λo=>match o.op with | .defer _=>false|_=>true
theorem zha(h:XD ops=true){i:Nat}{o:Oper}(a:ops[i]? =some o):∀c,o.op≠ .defer c:=by
 intro c b
 unfold XD at h
 rw[qa] at h
 have:=h o (by rw[<-qC] at a;exact qr a)
 rw[b] at this
 cases this
theorem wla(l n:Nat)(d:¬ LetsOut Q)(e:XD ops=true){i:Nat}{a:Act}{w:World}{K:Act->World->Prop}(h:wpOp P ops Q i K a w):wpOpIn (Fence.wide.inRound l) n P ops Q i K a w:=by
 unfold wpOp at h
 unfold wpOpIn
 cases b:ops[i]? with
 | none=>rw[b] at h;exact h
 | some o=>
   rw[b] at h
   simp only at h⊢
   split
   ·rename_i c
    rw[if_pos c] at h
    rcases h with h|⟨_,h⟩
    ·exact XX l n (zha e b) (λ_ _ q=>q) (Qs n h)
    ·exact absurd h d
   ·rename_i c
    rw[if_neg c] at h
    exact⟨λ_ _=>trivial,h⟩
theorem Wv(l n:Nat)(c:¬ LetsOut Q)(d:XD ops=true):∀(b:Nat) (listed:Array Bool) (a:Act) (w:World),wpAny P .any ops Q b listed a w->wpAnyIn (Fence.wide.inRound l) n P .any ops Q b listed a w
 | 0,_,_,_,h=>h
 | b+1,_,_,_,h=>⟨h.1,λi hi=>wla l n c d (wpOp_mono (λe w' h'=>Wv l n c d b _ e w' h') (h.2 i hi))⟩
theorem zia(b n:Nat):∀(l:List Oper) {a:Act} {w:World},(∀o∈l,∀c,o.op≠ .defer c)->wpListIn Fence.wide n P ops Q l a w->wpListIn (Fence.wide.inRound b) n P ops Q l a w
 | [],_,_,_,h=>h
 | o::l,a,w,e,h=>by
   have f:∀a w,wpListIn Fence.wide n P ops Q l a w->wpListIn (Fence.wide.inRound b) n P ops Q l a w:=λa w=>zia b n l λx g=>e x (.tail _ g)
   unfold wpListIn at h⊢
   split
   ·rename_i d
    rw[if_pos d] at h
    exact XX b n (e o (.head _)) f h
   ·rename_i d
    rw[if_neg d] at h
    exact⟨λ_ _=>trivial,f _ _ h.2⟩
end
section
variable {P:Program} {N b:Nat} {T:Env} {h:List Ob} {c c':Code} {ops:Array Oper} {Q Q':xR}
def RWp(P:Program)(N b l:Nat)(c:Code)(Q:xR)(T:Env)(h:List Ob):Prop:=
 ∀(φ:Nat->Ob),Upto φ h.length->∀(w:World) (g:Gh) (a:Act),Rel N ⟨b,[]⟩ w g (fill φ h) a T->c.wpIn (Fence.wide.inRound l) 0 P (λe f w'=>∃d h',Q e d h'/\Aft N ⟨b,[]⟩ φ w g h d h' f w') a w
theorem VLa{l:Nat}(k:RWp P N b l c (yQ (RWp P N b l c' Q) Q) T h):RWp P N b l (.seq c c') Q T h:=λφ f w g a r=>by
 refine wpIn_seq (Code.wpIn_mono (λe p w' ⟨j,h',i,d⟩=>?_) (k φ f w g a r))
 have q:=d.len
 cases e<;>first
  | (obtain⟨g',t,u,m⟩:=d;exact Code.wpIn_mono (λ_ _ _ ⟨o,n,v,s⟩=>⟨o,n,v,s.trans t m⟩) (i φ (f.mono q) w' g' p u))
  | exact⟨j,h',i,d⟩
theorem qQa{l id:Nat}(k:RWp P N b l c (QX id Q) T h):RWp P N b l (.block id c) Q T h:=λφ m w g a r=>by
 refine wpIn_block (Code.wpIn_mono (λe n w' ⟨f,h',d,j⟩=>?_) (k φ m w g a r))
 cases e with
 | exit i=>
   simp only[QX] at d
   simp only[Exit.inBlock]
   split
   ·rename_i hi;rw[if_pos hi] at d;exact⟨f,h',d,j⟩
   ·rename_i hi;rw[if_neg hi] at d;exact⟨f,h',d,j⟩
 | _=>exact⟨f,h',d,j⟩
theorem Jh{l id:Nat}(d:ops.toList.all (vu N)=true)(f:XD ops=true)(k:wpR P ops (Q .normal) ops.toList T h):RWp P N b l (.region id ops false) Q T h:=λφ e w g a r=>by
 refine wpIn_region ?_
 rw[List.range_eq_range', <-qF,wpOpsIn_eq_wpListIn ops.toList 0 (by simp)]
 refine zia l 0 ops.toList (λo j=>?_) (Zr ops.toList d e (xVa _ k) r λc h' w' m k' q=>⟨c,h',k',q⟩)
 obtain⟨i,hi⟩:=List.mem_iff_getElem?.1 j
 exact zha f (i:=i) (by rw[<-qC];exact hi)
theorem Xra{l id:Nat}(U:P.follows .mixedOrders=true)(L:List Ob)(k:Nat)(c:List Ent)(E:L=List.replicate k .res)(B:ops.toList.all (vu N)=true)(f:YC ops k c=true)(I:XD ops=true)(s:∀T h,¬ Q .outgrown T h)(V:wpQ P ops h.length (Q .normal) c T (h++L)):RWp P N b l (.region id ops true) Q T h:=λφ A w g a r=>by
 have kk:=JTa _ (E▸V)
 simp only[YC,zq,qa,decide_eq_true_eq,List.contains_eq_mem,qW] at f
 obtain⟨⟨⟨⟨⟨Y,H⟩,z⟩,S⟩,C⟩,m⟩:=f
 have j:=Good.drew (g:=g) r.ok r.hB
 have x:=VF j.size k j.ok
 have u:=j.trans x
 have y:fill φ (h++List.replicate k .res)=fill φ h++List.replicate k .res:=xc A
 rw[<-y] at u
 have W:Rel N ⟨b,[]⟩ w.drew g (fill φ (h++List.replicate k .res)) a T:=⟨u.ok,u.size,λi=>AR.le u.le _ _ (r.t i),r.d,r.n⟩
 refine wpIn_region_any U (Wv l 0 ?_ I _ _ _ _ ?_)
 ·rintro ⟨a1,w1,T1,h1,X,_⟩
  exact s _ _ X
 have R:Rest ops (Array.replicate ops.size false) c:=by
  refine⟨by simp,C,λi hi=>?_,Qj c Y,λq s=>⟨k,z q s⟩,λi o v G=>?_⟩
  ·simp[zU,hi]
   have:=S i hi
   simpa using this
  ·have hi:i<ops.size:=by
    rcases Nat.lt_or_ge i ops.size with h|h
    ·exact h
    ·rw[Array.getElem?_eq_none h] at v;cases v
   simp[zU,hi] at G
 refine qAa (K:=Q .normal) A H B ops.size _ c m R (by simp) (λq s o v O=>?_) kk W λF h' w' g' Z k' D J q=>⟨F,h',k',g',λi hi=>?_,J,u.trans q⟩
 ·obtain⟨o',e,_,_,M,_⟩:=ZC (z q s)
  rw[v] at e
  injection e with e
  subst e
  have:=M O
  rw[zX (by omega),Nat.add_sub_cancel_left,List.getElem?_replicate,if_pos this]
 ·have p:=(zd.1 hi).1
  exact D i p (by rw[zN p];exact hi)
abbrev QE:=Exit->List Deferred->Env->List Ob->Prop
def XO(P:Program)(N b:Nat)(ds:List Deferred)(c:Code)(Q:QE)(T:Env)(h:List Ob):Prop:=
 ∀ (φ:Nat->Ob),Upto φ h.length->∀(w:World) (g:Gh) (a:Act),Rel N ⟨b,ds⟩ w g (fill φ h) a T->
   c.wp P (λe i w'=>∃d f h',Q e d f h'/\∃g',ResK h h'/\Rel N ⟨b,d⟩ w' g' (fill φ h') i f/\Good b w g (fill φ h) w' g' (fill φ h')) a w
variable {ds:List Deferred} {X X':QE}
theorem yBa(k:AWp P N ⟨b,ds⟩ c Q T h)(j:∀e T h,Q e T h->X e ds T h):XO P N b ds c X T h:=λφ f w g a r=>
 wp_mono (k φ f w g a r) λe o w' ⟨d,h',n,g',i,l,m⟩=>⟨ds,d,h',j _ _ _ n,g',i,l,m⟩
def jhb(K:List Deferred->Env->List Ob->Prop)(X:QE):QE
 | .normal,ds,T,h=>K ds T h
 | e,ds,T,h=>X e ds T h
theorem zja(k:XO P N b ds c (jhb (λd T h=>XO P N b d c' X T h) X) T h):XO P N b ds (.seq c c') X T h:=λφ j w g a r=>by
 refine wp_seq (wp_mono (k φ j w g a r) λe t w' ⟨d,o,h',l,g',m,n,f⟩=>?_)
 have u:h.length<=h'.length:=Zz f
 cases e<;>first
  | exact wp_mono (l φ (j.mono u) w' g' t n) λ_ _ _ ⟨i,s,q,x,p,v,z3,z4⟩=>⟨i,s,q,x,p,m.trans v,z3,f.trans z4⟩
  | exact⟨d,o,h',l,g',m,n,f⟩
theorem Ww{id:Nat}(k:XO P N b ds c (λe d T h=>e= .normal/\X .normal d T h) T h):XO P N b ds (.block id c) X T h:=λφ i w g a r=>by
 refine wp_block (wp_mono (k φ i w g a r) λe n w' ⟨d,f,h',⟨j,m⟩,l⟩=>?_)
 subst j
 exact⟨d,f,h',m,l⟩
end
