import Derived.Test.YtigdlmpjijhpaaaGreatKA
import Derived.Test.YtigdlmpjijhpaaaGreatK19
import Derived.Test.YtigdlmpjijhpaaaGreatK21
import Derived.Test.YtigdlmpjijhpaaaGreatK23
import Derived.Test.YtigdlmpjijhpaaaGreatK10
import Derived.Test.YtigdlmpjijhpaaaGreatK24
import Derived.OrdersIn
import Derived.RangeFuncCalls
import Derived.RangeFuncNested
import Derived.RangeFuncLeaves
set_option linter.all false
namespace Go.Proofs.YtigdlmpjijhpaaaGreat.Ax
open Go
structure FlF (D:List Ev) (t:TellS):Prop where
 flags:∀x∈t.flags,∃e∈D,e.id=x.id
 opn:∀f os,t.open_=some (f,os)->f∈D
section
variable {D:List Ev} {t:TellS} {s:Setup}
theorem FlF.flag(h:FlF D t){e:Ev}(b:e∈D)(k:Int):FlF D (xK t e k):=⟨λx a=>by
 rcases zK.1 (show x∈t.flags++[⟨e.id,k⟩] from a) with a|a
 ·exact h.flags x a
 ·rw[zW] at a;subst a;exact⟨e,b,rfl⟩,h.opn⟩
theorem FlF.close(h:FlF D t)(f:Ev)(os:List Ev)(at_:Int):FlF D (vJ s t f os at_):=⟨h.flags,λ_ _ q=>by cases q⟩
theorem FlF.late(h:FlF D t)(m:Int):FlF D (lateP s t m):=by
 unfold lateP
 split
 ·exact h
 ·rename_i e os a
  split
  ·exact(h.flag (h.opn e os a) 1).close e os _
  ·exact h
theorem FlF.next(h:FlF D t){e:Ev}(c:e∈D):FlF D (kw s t e):=by
 have a:=h.late (s:=s) e.at_
 unfold kw
 split
 ·split
  ·exact⟨a.flags,λf os q=>by injection q with q;injection q with q _;rw[<-q];exact c⟩
  ·rename_i f os b
   have g:=(a.flag (a.opn f os b) 2).close (s:=s) f os e.at_
   exact⟨g.flags,λf os q=>by injection q with q;injection q with q _;rw[<-q];exact c⟩
 ·split
  ·exact a.flag c 3
  ·rename_i f os b
   split
   ·exact a.close f os _
   ·exact⟨a.flags,λi d q=>by injection q with q;injection q with q _;rw[<-q];exact a.opn f os b⟩
theorem FlF.go{w:Int}:∀(l:List Ev) {t:TellS},FlF D t->(∀e∈l,e∈D)->FlF D (l.foldl (vZ s w) t)
 | [],t,h,_=>h
 | e::l,t,h,a=>by
   rw[List.foldl_cons]
   refine FlF.go l ?_ λx b=>a x (.tail _ b)
   unfold vZ
   split
   ·exact h.next (a e (.head _))
   ·exact h
theorem XE{l:List Ev}{w:Int}:∀x∈(qA s l w).2,∃e∈l,e.id=x.id:=by
 unfold qA
 split
 ·have h0:FlF l ⟨none,[],[]⟩:=⟨λx a=>(by cases a),λ_ _ q=>(by cases q)⟩
  have c:FlF l (goP s w (qv l)):=FlF.go _ h0 λe b=>Xz.1 b
  exact(c.late (s:=s) 32054400).flags
 ·intro x a;cases a
end
open Go.Proofs
def Qha(b c:Int)(e:Ev):List Seg:=if b<c then [⟨b,c,J1 e.kind,e.id,e.code⟩] else []
theorem qQa{t:TellS}{b c:Int}{e:Ev}:(ye t b c e).segs=t.segs++Qha b c e:=by
 rw[Kk];unfold Qha;split<;>simp
def kga(first last:Int):Int->Ev->List Ev->List Seg
 | b,e,[]=>Qha b (toP first last last) e
 | b,e,x::os=>Qha b (toP first last x.at_) e++kga first last (toP first last x.at_) x os
theorem qRa{first last:Int}:∀(os:List Ev) (b:Int) (e:Ev) (t:TellS),
  (ye (os.foldl (wM first last) (b,e,t)).2.2 (os.foldl (wM first last) (b,e,t)).1 (toP first last last) (os.foldl (wM first last) (b,e,t)).2.1).segs=t.segs++kga first last b e os
 | [],b,e,t=>qQa
 | x::os,b,e,t=>by
   rw[List.foldl_cons,show wM first last (b,e,t) x=(toP first last x.at_,x,ye t b (toP first last x.at_) e) from rfl,qRa os,qQa,zt]
   rfl
theorem wH{s:Setup}{t:TellS}{f:Ev}{os:List Ev}{c:Int}:(vJ s t f os c).segs=t.segs++kga (jw f.at_ s.unit) (jw c s.unit) (jw f.at_ s.unit) f os:=qRa os _ _ _
theorem yxa{first last b c:Int}{e:Ev}(d:first<=b)(f:c<=max first last):∀g∈Qha b c e,first<=g.from_/\g.to_<=max first last:=λg a=>by
 unfold Qha at a
 split at a
 ·rw[zW] at a
  subst a
  exact⟨d,f⟩
 ·cases a
theorem kha{first last:Int}:∀(os:List Ev) (b:Int) (e:Ev),first<=b->∀g∈kga first last b e os,first<=g.from_/\g.to_<=max first last
 | [],b,e,c,g,a=>yxa c (by unfold toP;omega) g a
 | x::os,b,e,c,g,a=>by
   rcases zK.1 a with a|a
   ·exact yxa c (by unfold toP;omega) g a
   ·exact kha os _ _ (by unfold toP;omega) g a
def inG(s:Setup)(n:Int)(g:Seg):Bool:=decide (n - (s.unit+s.cap)<=g.from_) && decide (g.to_<=n+(s.unit+s.cap))
def QD(s:Setup)(n:Int)(l:List Seg):List Seg:=l.filter λg=> !inG s n g
def yD(q:Int->Bool)(l:List Flg):List Flg:=l.filter λf=> !q f.id
theorem ZI(s:Setup)(n:Int)(a b:List Seg):QD s n (a++b)=QD s n a++QD s n b:=qu ..
theorem ZJ(q:Int->Bool)(a b:List Flg):yD q (a++b)=yD q a++yD q b:=qu ..
theorem Y7{q:Int->Bool}{a:List Flg}{i k:Int}(h:q i=true):yD q (a++[⟨i,k⟩])=yD q a:=by
 rw[ZJ,show yD q [⟨i,k⟩]=[] by simp[yD,h],zH]
theorem VR{s:Setup}(d:z6 s=true){t:TellS}{f:Ev}{os:List Ev}{c n:Int}(h0:0<=f.at_/\f.at_<=31449599)(q:n - s.cap<=f.at_)(l:f.at_<=n)(m:f.at_<=c)(h:c<=n+s.cap)(i:c<=f.at_+s.cap):QD s n (vJ s t f os c).segs=QD s n t.segs:=by
 obtain⟨⟨a,b⟩,k,o⟩:=jU d
 have j:=Y4 a b (t:=f.at_) (by omega) (by omega)
 have p:=Y4 a b (t:=c) (by omega) (by omega)
 rw[wH,ZI]
 have:QD s n (kga (jw f.at_ s.unit) (jw c s.unit) (jw f.at_ s.unit) f os)=[]:=by
  unfold QD
  rw[List.filter_eq_nil_iff]
  intro g e
  have:=kha os _ f (Int.le_refl _) g e
  simp only[inG,Bool.not_eq_true,Bool.not_eq_false',zq,decide_eq_true_eq]
  omega
 rw[this,zH]
def InO(s:Setup)(p:Ev->Prop)(n:Int)(t:TellS):Prop:=∀f os,t.open_=some (f,os)->p f/\n - s.cap<=f.at_/\f.at_<=n
structure Nr (s:Setup) (p:Ev->Prop) (n:Int) (q:Int->Bool) (a b:TellS):Prop where
 seg:QD s n a.segs=QD s n b.segs
 flg:yD q a.flags=yD q b.flags
 opn:a.open_=b.open_∨(InO s p n a/\InO s p n b)
def QE(s:Setup)(t:TellS)(e:Ev):TellS:=
 if e.kind=1 then(match t.open_ with
  | none=>⟨some (e,[]),t.segs,t.flags⟩
  | some (f,os)=>⟨some (e,[]),(vJ s (xK t f 2) f os e.at_).segs,(vJ s (xK t f 2) f os e.at_).flags⟩)
 else match t.open_ with
  | none=>xK t e 3
  | some (f,os)=>if e.kind=2 then vJ s t f os e.at_ else⟨some (f,os++[e]),t.segs,t.flags⟩
theorem Vd(s:Setup)(t:TellS)(e:Ev):kw s t e=QE s (lateP s t e.at_) e:=rfl
section
variable {s:Setup} {p:Ev->Prop} {n:Int} {q:Int->Bool} {a b t:TellS}
theorem jWa{f:Ev}(a:z6 s=true)(h0:0<=f.at_/\f.at_<=31449599):wr (f.at_+s.cap)=f.at_+s.cap:=by
 obtain⟨⟨b,e⟩,c,d⟩:=jU a
 exact qp (by unfold Fit;omega)
theorem yya(a:z6 s=true)(c:∀e,p e->0<=e.at_/\e.at_<=31449599)(g:∀e,p e->n - s.cap<=e.at_->e.at_<=n+s.cap->q e.id=true)(h:InO s p n t)(m:Int):
  QD s n (lateP s t m).segs=QD s n t.segs/\yD q (lateP s t m).flags=yD q t.flags/\InO s p n (lateP s t m):=by
 obtain⟨⟨i,l⟩,j,k⟩:=jU a
 unfold lateP
 cases d:t.open_ with
 | none=>exact⟨rfl,rfl,h⟩
 | some z=>
   obtain⟨f,os⟩:=z
   obtain⟨k1,k2,k3⟩:=h f os d
   have b:=c f k1
   simp only
   split
   ·rw[jWa a b]
    refine⟨VR (t:=xK t f 1) a b k2 k3 (by omega) (by omega) (by omega),?_,λ_ _ q=>by cases q⟩
    show yD q (t.flags++[⟨f.id,1⟩])=_
    exact Y7 (g f k1 k2 (by omega))
   ·exact⟨rfl,rfl,h⟩
theorem Nr.late(d:z6 s=true)(g:∀e,p e->0<=e.at_/\e.at_<=31449599)(j:∀e,p e->n - s.cap<=e.at_->e.at_<=n+s.cap->q e.id=true)(h:Nr s p n q a b)(m:Int):Nr s p n q (lateP s a m) (lateP s b m):=by
 rcases h.opn with i|⟨r,l⟩
 ·cases c:b.open_ with
  | none=>
    have o:lateP s a m=a:=by unfold lateP;rw[i,c]
    have k:lateP s b m=b:=by unfold lateP;rw[c]
    rw[o,k];exact h
  | some z=>
    obtain⟨f,os⟩:=z
    unfold lateP
    rw[i,c]
    simp only
    split
    ·refine⟨?_,?_,.inl rfl⟩
     ·rw[wH,wH,ZI,ZI,show(xK a f 1).segs=a.segs from rfl,show(xK b f 1).segs=b.segs from rfl,h.seg]
     ·show yD q (a.flags++_)=yD q (b.flags++_)
      rw[ZJ,ZJ,h.flg]
    ·exact h
 ·obtain⟨a1,a2,a3⟩:=yya (q:=q) d g j r m
  obtain⟨b1,b2,b3⟩:=yya (q:=q) d g j l m
  exact⟨by rw[a1,b1];exact h.seg,by rw[a2,b2];exact h.flg,.inr ⟨a3,b3⟩⟩
theorem jXa(c:z6 s=true)(l:∀e,p e->0<=e.at_/\e.at_<=31449599)(k:∀e,p e->n - s.cap<=e.at_->e.at_<=n+s.cap->q e.id=true)(h:InO s p n t){e:Ev}(o:p e)(A:n<=e.at_)(d:e.at_<=n+s.cap)
  (r:∀f os,t.open_=some (f,os)->e.at_<=f.at_+s.cap):
  QD s n (QE s t e).segs=QD s n t.segs/\yD q (QE s t e).flags=yD q t.flags/\(e.kind=1->(QE s t e).open_=some (e,[]))/\(e.kind≠1->InO s p n (QE s t e)):=by
 obtain⟨⟨v,x⟩,w,u⟩:=jU c
 have b:=k e o (by omega) d
 unfold QE
 cases g:t.open_ with
 | none=>
   by_cases a:e.kind=1
   ·rw[if_pos a]
    exact⟨rfl,rfl,λ_=>rfl,λq=>absurd a q⟩
   ·rw[if_neg a]
    exact⟨rfl,Y7 b,λq=>absurd q a,λ_=>h⟩
 | some z=>
   obtain⟨f,os⟩:=z
   obtain⟨k1,k2,k3⟩:=h f os g
   have i:=l f k1
   have j:=r f os g
   by_cases a:e.kind=1
   ·rw[if_pos a]
    refine⟨VR (t:=xK t f 2) c i k2 k3 (by omega) d j,?_,λ_=>rfl,λq=>absurd a q⟩
    show yD q (t.flags++[⟨f.id,2⟩])=_
    exact Y7 (k f k1 k2 (by omega))
   ·rw[if_neg a]
    simp only
    split
    ·exact⟨VR c i k2 k3 (by omega) d j,rfl,λq=>absurd q a,λ_ _ _ q=>by cases q⟩
    ·refine⟨rfl,rfl,λq=>absurd q a,λ_ y m q=>?_⟩
     injection q with q;injection q with q1 q2;subst q1
     exact⟨k1,k2,k3⟩
theorem Nr.next(l:z6 s=true)(v:∀e,p e->0<=e.at_/\e.at_<=31449599)(m:∀e,p e->n - s.cap<=e.at_->e.at_<=n+s.cap->q e.id=true)(h:Nr s p n q a b){e:Ev}(r:p e)(t:n<=e.at_)
  (o:∀f os,a.open_=some (f,os)->e.at_<=f.at_+s.cap) (k:∀f os,b.open_=some (f,os)->e.at_<=f.at_+s.cap):Nr s p n q (QE s a e) (QE s b e):=by
 have same:a.open_=b.open_->Nr s p n q (QE s a e) (QE s b e):=λg=>by
  unfold QE
  rw[g]
  cases b.open_ with
  | none=>
    simp only
    split
    ·exact⟨h.seg,h.flg,.inl rfl⟩
    ·refine⟨h.seg,?_,.inl g⟩
     show yD q (a.flags++_)=yD q (b.flags++_)
     rw[ZJ,ZJ,h.flg]
  | some z=>
    obtain⟨f,os⟩:=z
    simp only
    split
    ·refine⟨?_,?_,.inl rfl⟩
     ·rw[wH,wH,ZI,ZI,show(xK a f 2).segs=a.segs from rfl,show(xK b f 2).segs=b.segs from rfl,h.seg]
     ·show yD q (a.flags++_)=yD q (b.flags++_)
      rw[ZJ,ZJ,h.flg]
    ·split
     ·exact⟨by rw[wH,wH,ZI,ZI,h.seg],h.flg,.inl rfl⟩
     ·exact⟨h.seg,h.flg,.inl rfl⟩
 rcases h.opn with g|⟨k1,k2⟩
 ·exact same g
 ·by_cases j:a.open_=none/\b.open_=none
  ·exact same (j.1.trans j.2.symm)
  ·have u:e.at_<=n+s.cap:=by
    cases d:a.open_ with
    | some z=>
      obtain⟨f,os⟩:=z
      have:=o f os d
      have:=(k1 f os d).2.2
      omega
    | none=>cases c:b.open_ with
      | some z=>
        obtain⟨f,os⟩:=z
        have:=k f os c
        have:=(k2 f os c).2.2
        omega
      | none=>exact absurd ⟨d,c⟩ j
   obtain⟨w,E,B,x⟩:=jXa (q:=q) l v m k1 r t u o
   obtain⟨C,D,A,y⟩:=jXa (q:=q) l v m k2 r t u k
   refine⟨by rw[w,C];exact h.seg,by rw[E,D];exact h.flg,?_⟩
   by_cases i:e.kind=1
   ·exact .inl (by rw[B i,A i])
   ·exact .inr ⟨x i,y i⟩
theorem J5(a:z6 s=true)(c:∀e,p e->0<=e.at_/\e.at_<=31449599){m:Int}(b:∀f os,t.open_=some (f,os)->p f):∀f os,(lateP s t m).open_=some (f,os)->m<=f.at_+s.cap:=λf os d=>by
 obtain⟨_,k2,k3⟩:=VQ d
 rw[jWa a (c f (b f os k2))] at k3
 exact k3
theorem yza(a:∀f os,t.open_=some (f,os)->p f)(m:Int):∀f os,(lateP s t m).open_=some (f,os)->p f:=λf os b=>a f os (VQ b).2.1
theorem Ve(h:∀f os,t.open_=some (f,os)->p f){e:Ev}(d:p e):∀f os,(kw s t e).open_=some (f,os)->p f:=λf os a=>by
 have b:=yza (s:=s) h e.at_
 rw[Vd] at a
 unfold QE at a
 cases c:(lateP s t e.at_).open_ with
 | none=>
   rw[c] at a
   simp only at a
   split at a
   ·injection a with a;injection a with h1 h2;subst h1;exact d
   ·exact b f os a
 | some z=>
   obtain⟨g,gs⟩:=z
   rw[c] at a
   simp only at a
   split at a
   ·injection a with a;injection a with h1 h2;subst h1;exact d
   ·split at a
    ·cases a
    ·injection a with a;injection a with h1 h2;subst h1;exact b _ _ c
theorem VS(d:z6 s=true)(k:∀e,p e->0<=e.at_/\e.at_<=31449599)(h:∀f os,t.open_=some (f,os)->p f){e:Ev}(o:p e):lateP s (kw s t e) e.at_=kw s t e:=by
 obtain⟨⟨q,v⟩,r,u⟩:=jU d
 have l:=J5 (m:=e.at_) d k h
 have n:=yza (s:=s) h e.at_
 have b:∀f os,(kw s t e).open_=some (f,os)->e.at_<=f.at_+s.cap:=λf os a=>by
  rw[Vd] at a
  unfold QE at a
  cases j:(lateP s t e.at_).open_ with
  | none=>
    rw[j] at a
    simp only at a
    split at a
    ·injection a with a;injection a with c h2;subst c;omega
    ·exact l f os a
  | some z=>
    obtain⟨g,gs⟩:=z
    rw[j] at a
    simp only at a
    split at a
    ·injection a with a;injection a with c h2;subst c;omega
    ·split at a
     ·cases a
     ·injection a with a;injection a with c h2;subst c;exact l _ _ j
 have i:=Ve h o (s:=s)
 rw[lateP.eq_1]
 cases a:(kw s t e).open_ with
 | none=>rfl
 | some z=>
   obtain⟨f,os⟩:=z
   have c:=b f os a
   simp only
   rw[jWa d (k f (i f os a)),if_neg (by omega)]
theorem qSa(d:z6 s=true)(c:∀e,p e->0<=e.at_/\e.at_<=31449599)(o:∀e,p e->n - s.cap<=e.at_->e.at_<=n+s.cap->q e.id=true):∀(l:List Ev) (a b:TellS) (m:Int),Nr s p n q (lateP s a m) (lateP s b m)->
  (∀f os,a.open_=some (f,os)->p f)->(∀f os,b.open_=some (f,os)->p f)->n<=m->l.Pairwise (λa b=>a.at_<=b.at_)->(∀e∈l,p e/\m<=e.at_)->m<=32054400->
  Nr s p n q (lateP s (l.foldl (kw s) a) 32054400) (lateP s (l.foldl (kw s) b) 32054400)
 | [],a,b,m,h,r,k,z,_,_,t=>by
   have:=h.late d c o 32054400
   rw[XD t,XD t] at this
   exact this
 | e::l,a,b,m,h,r,k,z,i,v,t=>by
   obtain⟨k1,k2⟩:=zR.1 i
   obtain⟨g,j⟩:=v e (.head _)
   have y:=h.late d c o e.at_
   rw[XD j,XD j] at y
   have w:=y.next d c o g (by omega) (J5 d c r) (J5 d c k)
   rw[<-Vd, <-Vd] at w
   rw[List.foldl_cons,List.foldl_cons]
   refine qSa d c o l _ _ e.at_ ?_ (Ve r g) (Ve k g) (by omega) k2 (λx u=>⟨(v x (.tail _ u)).1,k1 x u⟩) (by have:=c e g;omega)
   rw[VS d c r g,VS d c k g]
   exact w
theorem yAa:∀(l:List Ev) (t:TellS),(∀f os,t.open_=some (f,os)->p f)->(∀e∈l,p e)->∀f os,(l.foldl (kw s) t).open_=some (f,os)->p f
 | [],t,h,_=>h
 | e::l,t,h,a=>by
   rw[List.foldl_cons]
   exact yAa l _ (Ve h (a e (.head _))) λx b=>a x (.tail _ b)
end
theorem VTa{s:Setup}(g:z6 s=true){A B:List Ev}{e:Ev}{q:Int->Bool}(j:(A++e::B).Pairwise λa b=>a.at_<=b.at_)(i:∀x∈A++e::B,0<=x.at_/\x.at_<=31449599)
  (o:∀x∈A++e::B,e.at_ - s.cap<=x.at_->x.at_<=e.at_+s.cap->q x.id=true):
  Nr s (λx=>x∈A++e::B) e.at_ q (lateP s ((A++B).foldl (kw s) ⟨none,[],[]⟩) 32054400) (lateP s ((A++e::B).foldl (kw s) ⟨none,[],[]⟩) 32054400):=by
 obtain⟨⟨H,G⟩,F,I⟩:=jU g
 obtain⟨k1,k2,k3⟩:=qT.1 j
 obtain⟨k4,k5⟩:=zR.1 k2
 have c:e∈A++e::B:=List.mem_append_right _ (.head _)
 rw[qK,qK,List.foldl_cons]
 obtain⟨t,r⟩:∃t,t=A.foldl (kw s) ⟨none,[],[]⟩:=⟨_,rfl⟩
 rw[<-r]
 have w:∀f os,t.open_=some (f,os)->f∈A:=by
  rw[r]
  exact yAa (p:=λx=>x∈A) A _ (λ_ _ h=>by cases h) λ_ h=>h
 have l:∀f os,t.open_=some (f,os)->f∈A++e::B:=λf os h=>List.mem_append_left _ (w f os h)
 refine qSa g i o B _ _ e.at_ ?_ l (Ve (p:=λx=>x∈A++e::B) l c) (Int.le_refl _) k5 (λx n=>⟨List.mem_append_right _ (.tail _ n),k4 x n⟩) (by have:=i e c;omega)
 rw[VS (p:=λx=>x∈A++e::B) g i l c,Vd]
 have k:InO s (λx=>x∈A++e::B) e.at_ (lateP s t e.at_):=λf os d=>by
  have u:=J5 (p:=λx=>x∈A++e::B) g i l f os d
  have m:=w f os (VQ d).2.1
  have D:=k3 f m e (.head _)
  exact⟨List.mem_append_left _ m,by omega,D⟩
 obtain⟨z,E,C,y⟩:=jXa (q:=q) g i o k c (Int.le_refl _) (by omega) (J5 (p:=λx=>x∈A++e::B) g i l)
 refine⟨z.symm,E.symm,.inr ⟨k,?_⟩⟩
 by_cases v:e.kind=1
 ·intro f os d
  rw[C v] at d
  injection d with d;injection d with u m;subst u
  exact⟨c,by omega,Int.le_refl _⟩
 ·exact y v
def ZK(s t:Spn):Spn:=⟨max s.from_ t.from_,min s.to_ t.to_⟩
def Zj(a b:List Spn):List Spn:=a.flatMap λs=>b.map (ZK s)
def Vg(a b:List Spn):List Spn:=qz (Zj (qz a) (qz b))
theorem woa(a b:List Spn)(s:Spn):Zj (a++[s]) b=Zj a b++b.map (ZK s):=by simp[Zj]
theorem qTa(a b:List Spn):(Zj a b).length=a.length*b.length:=by
 induction a with
 | nil=>simp[Zj]
 | cons s a c=>simp only[Zj,List.flatMap_cons,zf,zb,List.length_cons,Nat.succ_mul] at *; omega
theorem VV{a b:List Spn}{t:Int}:Cov (Zj a b) t↔Cov a t/\Cov b t:=by
 unfold Cov Zj
 constructor
 ·rintro ⟨s,d,g,f⟩
  obtain⟨x,c,d⟩:=List.mem_flatMap.1 d
  obtain⟨y,e,rfl⟩:=zr.1 d
  simp only[ZK] at g f
  exact⟨⟨x,c,by omega,by omega⟩,y,e,by omega,by omega⟩
 ·rintro ⟨⟨x,c,g,f⟩,y,e,i,h⟩
  exact⟨ZK x y,List.mem_flatMap.2 ⟨x,c,zr.2 ⟨y,e,rfl⟩⟩,by simp only[ZK];omega,by simp only[ZK];omega⟩
theorem Vh{a b:List Spn}{t:Int}:Cov (Vg a b) t↔(0<=t/\t<32054400)/\Cov a t/\Cov b t:=by
 unfold Vg
 rw[ju,VV,ju,ju]
 constructor
 ·rintro ⟨c,d,⟨_,_,f⟩,_,_,e⟩;exact⟨⟨c,d⟩,f,e⟩
 ·rintro ⟨⟨c,d⟩,f,e⟩;exact⟨c,d,⟨c,d,f⟩,c,d,e⟩
theorem J6:∀(c:Spn) (r:List Spn) (s:Spn),s∈vr c r->s.from_=c.from_∨∃x∈r,s.from_=x.from_
 | c,[],s,h=>by
   rw[vr,zW] at h
   subst h;exact .inl rfl
 | c,x::r,s,h=>by
   rw[vr] at h
   split at h
   ·rcases J6 _ r s h with h|⟨y,a,h⟩
    ·exact .inl h
    ·exact .inr ⟨y,.tail _ a,h⟩
   ·rcases zx.1 h with rfl|h
    ·exact .inl rfl
    ·rcases J6 x r s h with h|⟨y,a,h⟩
     ·exact .inr ⟨x,.head _,h⟩
     ·exact .inr ⟨y,.tail _ a,h⟩
theorem Km{l:List Spn}{s:Spn}(h:s∈qz l):∃x∈xw l,s.from_=x.from_:=by
 unfold qz at h
 have b:∀x∈Va (xw l),x∈xw l:=λx a=>(wG _).mem_iff.1 a
 cases d:Va (xw l) with
 | nil=>rw[d] at h;cases h
 | cons c r=>
   rw[d] at h b
   rcases J6 c r s h with h|⟨x,a,h⟩
   ·exact⟨c,b c (.head _),h⟩
   ·exact⟨x,b x (.tail _ a),h⟩
theorem XF:∀ {a b:List Int},a.Nodup->(∀x∈a,x∈b)->a.length<=b.length
 | [],_,_,_=>by simp
 | x::a,b,c,g=>by
   rw[List.nodup_cons] at c
   have d:=g x (.head _)
   have:=XF (a:=a) (b:=b.erase x) c.2 λy f=>(List.mem_erase_of_ne (λe=>c.1 (by rw[<-e];exact f))).2 (g y (.tail _ f))
   rw[List.length_erase_of_mem d] at this
   have:0<b.length:=List.length_pos_of_mem d
   rw[List.length_cons];omega
theorem PlainS.froms{l:List Spn}(h:PlainS l):(l.map (·.from_)).Nodup:=by
 induction l with
 | nil=>simp
 | cons s l b=>
   rw[List.map_cons,List.nodup_cons]
   refine⟨λc=>?_,b h.tail⟩
   obtain⟨x,a,e⟩:=zr.1 c
   have f:=(zR.1 h.gap).1 x a
   have d:=h.pos s (.head _)
   omega
theorem zea(a b:List Spn):(Vg a b).length<=(qz a).length+(qz b).length:=by
 have k:=(vi (Zj (qz a) (qz b))).froms
 have c:((Vg a b).map (·.from_)).length<=((qz a).map (·.from_)++(qz b).map (·.from_)).length:=by
  refine XF k λx i=>?_
  obtain⟨s,c,rfl⟩:=zr.1 i
  obtain⟨y,g,e⟩:=Km c
  unfold xw at g
  obtain⟨z,d,rfl⟩:=zr.1 (zT.1 g).1
  obtain⟨p,f,d⟩:=List.mem_flatMap.1 d
  obtain⟨q,h,rfl⟩:=zr.1 d
  have m:=(va p f).1
  have l:=(va q h).1
  rw[zK]
  rw[e]
  simp only[kJ,ZK]
  by_cases j:p.from_<=q.from_
  ·exact .inr (zr.2 ⟨q,h,by omega⟩)
  ·exact .inl (zr.2 ⟨p,f,by omega⟩)
 simpa using c
def jl:Int->List Spn->List Spn
 | k,[]=>if k<32054400 then [⟨k,32054400⟩] else []
 | k,s::r=>(if s.from_>k then [⟨k,s.from_⟩] else [])++jl s.to_ r
def jD(a b:List Spn):List Spn:=Vg a (jl 0 (qz b))
theorem zfa:∀ {l:List Spn} {k t:Int},PlainS l->(∀s∈l,k<=s.from_)->(∀s∈l,s.to_<=32054400)->(Cov (jl k l) t↔(k<=t/\t<32054400)/\¬ Cov l t)
 | [],k,t,_,_,_=>by
   unfold jl
   split
   ·simp[Cov]
   ·simp[Cov];omega
 | s::r,k,t,b,i,e=>by
   have o:=i s (.head _)
   have m:=b.pos s (.head _)
   have n:=e s (.head _)
   have g:=zfa (l:=r) (k:=s.to_) (t:=t) b.tail (λx c=>by have:=(zR.1 b.gap).1 x c;omega) (λx c=>e x (.tail _ c))
   have d:Cov r t->s.to_<t:=b.above
   rw[jl,jTa,g,jT]
   split
   ·simp only[Cov,zW,exists_eq_left]
    constructor
    ·rintro (h|⟨h,a⟩)
     ·refine⟨by omega,?_⟩
      rintro (q|q)
      ·omega
      ·have:=d q;omega
     ·exact⟨by omega,λq=>by rcases q with q|q;omega;exact a q⟩
    ·rintro ⟨h,a⟩
     by_cases j:t<s.from_
     ·exact .inl (by omega)
     ·refine .inr ⟨⟨?_,h.2⟩,λq=>a (.inr q)⟩
      apply Classical.byContradiction
      intro f
      exact a (.inl (by omega))
   ·simp only[Cov,List.not_mem_nil,false_and,exists_false,false_or]
    constructor
    ·rintro ⟨h,a⟩
     exact⟨by omega,λq=>by rcases q with q|q;omega;exact a q⟩
    ·rintro ⟨h,a⟩
     refine⟨⟨?_,h.2⟩,λq=>a (.inr q)⟩
     apply Classical.byContradiction
     intro f
     exact a (.inl (by omega))
theorem Kn:∀(l:List Spn) (k:Int),(jl k l).length<=l.length+1
 | [],k=>by unfold jl;split<;>simp
 | s::r,k=>by
   have:=Kn r s.to_
   rw[jl,zf,List.length_cons]
   split<;>simp<;>omega
theorem wI{a b:List Spn}{t:Int}:Cov (jD a b) t↔(0<=t/\t<32054400)/\Cov a t/\¬ Cov b t:=by
 unfold jD
 rw[Vh,zfa (vi b) (λs d=>(va s d).1) (λs d=>(va s d).2.2),ju]
 constructor
 ·rintro ⟨c,e,_,f⟩;exact⟨c,e,λq=>f ⟨c.1,c.2,q⟩⟩
 ·rintro ⟨c,e,f⟩;exact⟨c,e,c,λq=>f q.2.2⟩
theorem xz(a b:List Spn):(jD a b).length<=(qz a).length+(qz b).length+1:=by
 have d:=zea a (jl 0 (qz b))
 have c:=qj (jl 0 (qz b))
 have e:=Kn (qz b) 0
 unfold jD
 omega
def Je(s:Spn)(n:Int):Spn:=⟨s.from_,min s.to_ (s.from_+min n 32054400)⟩
def Jf:List Spn->Int->List Spn
 | [],_=>[]
 | s::r,n=>if n<=0 then [] else Je s n::Jf r (n - ((Je s n).to_ - s.from_))
theorem xR:∀(l:List Spn) (n:Int),(Jf l n).length<=l.length
 | [],_=>zo _
 | s::r,n=>by
   rw[Jf]
   split
   ·simp
   ·have:=xR r (n - ((Je s n).to_ - s.from_))
    simp only[List.length_cons];omega
def qP(l:List Spn)(n:Int):List Spn:=Jf (qz l) n
def J7(l:List Spn)(n:Int):List Spn:=if n<=0 then [] else jD l (qP l (jR (qz l) - min n 32054400))
end Go.Proofs.YtigdlmpjijhpaaaGreat.Ax
namespace Go.Proofs.YtigdlmpjijhpaaaGreat.Ax
open Go Go.RowKit
theorem wpa{o:Option Ob}{st:Nat}{rows:List (List AV)}(a:qGa o st=some rows):∃ty e,o=some (.row ty e rows st):=by
 unfold qGa at a
 split at a
 ·split at a
  ·rename_i b
   injection a with a
   subst b a
   exact⟨_,_,rfl⟩
  ·cases a
 ·cases a
def kla:AV->Option Nat
 | .tl id _=>some id
 | .vw a _ _ _=>kla a
 | _=>none
theorem yDa{n:Nat}{L:List Ob}:∀(r:AV) {rows:List (List AV)},qa (List.replicate n .gone++L) r=some rows->∀id,kla r=some id->n<=id
 | .tl id st,rows,h,i,hi=>by
   injection hi with hi
   subst hi
   apply Classical.byContradiction
   intro c
   have:(List.replicate n Ob.gone++L)[id]? =some .gone:=by
    rw[zO (by rw[jb];omega),List.getElem?_replicate,if_pos (by omega)]
   rw[qZ,this] at h
   cases h
 | .vw a e i k,rows,h,id,hi=>by
   rw[vD] at h
   cases b:qa (List.replicate n .gone++L) a with
   | none=>rw[b] at h;cases h
   | some ys=>exact yDa a b id hi
 | .v _,_,_,_,hi | .sl _ _,_,_,_,hi | .em,_,_,_,hi | .ptr _ _,_,_,_,hi | .ep _ _ _ _,_,_,_,hi | .mp _,_,_,_,hi | .ag _,_,_,_,hi | .tup _,_,_,_,hi | .fn _ _ _,_,_,_,hi | .bad,_,_,_,hi=>by cases hi
section
variable {B:Nat} {w:World} {g:Gh} {h L:List Ob}
theorem Xwa{b:Nat}(k:kept g h b):kept g (h++L) b:=by
 obtain⟨i,o,a,c⟩:=k
 exact⟨i,o,ze a,c⟩
theorem zga(J:HOk B w g (h++L)):∀(r:AV) {A:Addr} {n k:Nat} {rows:List (List AV)} {e:Nat},AR (ctx w g (h++L)) r (.slice (some A) n k)->qa (h++L) r=some rows->eOf (h++L) r=some e->0<e->rows≠[]->(∀id,kla r=some id->h.length<=id)->¬ kept g h A.block
 | .sl y xs,A,n,k,rows,e,l,b,f,h0,j,d=>by
   obtain⟨Q,k',t,T,K⟩:=l
   injection t with t o N
   subst t
   injection b with b
   subst b
   injection f with f
   subst f
   cases xs with
   | nil=>exact absurd rfl j
   | cons x xs=>
     obtain⟨⟨Y,F⟩,_⟩:=K
     cases x with
     | nil=>simp at Y;omega
     | cons c x=>
       obtain⟨⟨I,u,D,W,_⟩,_⟩:=F
       injection D with D
       subst D
       intro hk
       refine W.1 ?_
       have:(A.add (0*y)).block=A.block:=by unfold Addr.add;split<;>rfl
       rw[this]
       exact Xwa hk
 | .tl id st,A,n,k,rows,e,l,b,f,h0,j,d=>by
   rw[qZ] at b
   obtain⟨ty,y,H⟩:=wpa b
   have F:=Qj l H
   rintro ⟨i,p,M,O⟩
   have V:=vS M
   have hid:=d id rfl
   refine J.apart i id p _ A.block (by omega) (ze M) H O ?_
   show(g.cur id).ownBlock=_
   rw[<-F];rfl
 | .vw a y i m,A,n,k,rows,e,l,b,f,h0,j,d=>by
   obtain⟨A0,m0,cp,Q,k',t,T,K,o,N,_⟩:=l
   rw[vD] at b
   rw[Q3] at f
   cases C:qa (h++L) a with
   | none=>rw[C] at b;cases b
   | some ys=>
     rw[C] at b
     simp only[Option.bind_some] at b
     split at b
     ·rename_i z
      injection b with b
      cases s:eOf (h++L) a with
      | none=>rw[s] at f;cases f
      | some S=>
        have G:0<m:=by
         apply Classical.byContradiction
         intro G
         have:m=0:=by omega
         subst this
         rw[List.take_zero] at b
         exact j b.symm
        have E:ys≠[]:=by
         intro Z
         subst Z
         simp at z
         omega
        have P:S=y/\y=e:=by
         rw[s] at f
         simp only[Option.bind_some] at f
         split at f
         ·rename_i q;injection f with f;exact⟨q,f⟩
         ·cases f
        injection o with o h6 h7
        subst h6
        obtain⟨I,R,X⟩:=N G
        subst R
        have U:=zga J a t C s (by omega) E d
        rw[X] at o
        injection o with o
        have:A.block=I.block:=by rw[o];unfold Addr.add;split<;>rfl
        rw[this]
        exact U
     ·cases b
 | .v x,A,n,k,rows,e,l,b,f,h0,j,d=>by
   have l:Value.slice (some A) n k=x:=l
   subst l
   cases b
 | .em,_,_,_,_,_,_,b,_,_,j,_=>by injection b with b;exact absurd b.symm j
 | .ptr _ _,_,_,_,_,_,_,b,_,_,_,_ | .ep _ _ _ _,_,_,_,_,_,_,b,_,_,_,_ | .mp _,_,_,_,_,_,_,b,_,_,_,_ | .ag _,_,_,_,_,_,_,b,_,_,_,_ | .tup _,_,_,_,_,_,_,b,_,_,_,_ | .fn _ _ _,_,_,_,_,_,_,b,_,_,_,_ | .bad,_,_,_,_,_,_,b,_,_,_,_=>by cases b
theorem Jg(I:HOk B w g (h++L)){r:AV}{u:Value}{rows:List (List AV)}{e:Nat}(D:0<e)(H:AR (ctx w g (h++L)) r u)(t:SlOf (h++L) r e rows)(f:∀id,kla r=some id->h.length<=id)(O:qM h.length rows=true):AR (ctx w g h) (.sl e rows) u:=by
 obtain⟨A,k,C,J,N,R⟩:=wB I r H t.rows
 by_cases q:rows=[]
 ·subst q
  exact⟨A,k,C,J,True.intro⟩
 have n:=t.ee q
 have s:=N e n
 refine⟨A,k,C,J,?_⟩
 have Q:∃a0,A=some a0:=by
  cases rows with
  | nil=>exact absurd rfl q
  | cons x xs=>
    have b:=s.len x (by simp)
    cases x with
    | nil=>simp at b;omega
    | cons c x=>
      obtain⟨G,F,o,_⟩:=s.cell 0 0 (c::x) c rfl rfl
      exact⟨G,o⟩
 obtain⟨a0,rfl⟩:=Q
 subst C
 have v:=zga I r H t.rows n D q f
 have l:=kU w g h L
 have cells:∀(i:Nat) (x:List AV),rows[i]? =some x->qy h.length x=true->∀(y:List AV) (k0:Nat),(∀j a,y[j]? =some a->x[k0+j]? =some a)->qy h.length y=true->ACells (ctx w g h) (some a0) (i*e+k0) y:=by
  intro i x m _ y
  induction y with
  | nil=>intro _ _ _;trivial
  | cons c y E=>
    intro k0 p b
    have b:c.lt h.length=true/\qy h.length y=true:=by simpa [qy] using b
    have K:=p 0 c rfl
    rw[Nat.add_zero] at K
    obtain⟨G,F,o,P,M⟩:=s.cell i k0 x c m K
    injection o with o
    subst o
    refine⟨⟨a0,F,rfl,⟨?_,P⟩,AR.less l c F b.1 M⟩,?_⟩
    ·have:(a0.add (i*e+k0)).block=a0.block:=by unfold Addr.add;split<;>rfl
     rw[this]
     exact v
    ·have:=E (k0+1) (λj a d=>by
      have:=p (j+1) a d
      rw[show k0+(j+1)=k0+1+j by omega] at this
      exact this) b.2
     rw[show i*e+k0+1=i*e+(k0+1) by omega]
     exact this
 have all:∀(ys:List (List AV)) (i:Nat),(∀j x,ys[j]? =some x->rows[i+j]? =some x)->qM h.length ys=true->ARows (ctx w g h) (some a0) e i ys:=by
  intro ys
  induction ys with
  | nil=>intro _ _ _;trivial
  | cons x ys E=>
    intro i p b
    have b:qy h.length x=true/\qM h.length ys=true:=by simpa [qM] using b
    have m:=p 0 x rfl
    rw[Nat.add_zero] at m
    refine⟨⟨s.len x (qq m),?_⟩,E (i+1) (λj z d=>by
     have:=p (j+1) z d
     rw[show i+(j+1)=i+1+j by omega] at this
     exact this) b.2⟩
    have:=cells i x m b.1 x 0 (λj a d=>by rw[Nat.zero_add];exact d) b.1
    simpa using this
 exact all rows 0 (λj x d=>by rw[Nat.zero_add];exact d) O
end
theorem New.root{h L:List Ob}{e:Nat}{x:AV}{rows:List (List AV)}(k:New h e x rows L):∀id,kla x=some id->h.length<=id:=
 yDa (L:=L) x (k (List.replicate h.length .gone) (by simp)).rows
variable {P:Program} {f:FuncId} {ar:List AV} {h:List Ob}
theorem jX{e:Nat}{rows:List (List AV)}(o:0<e)(m:qM h.length rows=true)(c:ACalls P f ar h λr h'=>∃L,h'=h++L/\NoRes L/\New h e r rows L):ACalls P f ar h λr h'=>r= .sl e rows/\h'=h:=by
 refine⟨c.1,⟨_,_,⟨rfl,rfl⟩,.refl⟩,λφ k B w g vs j hB b=>?_⟩
 refine(c.2.2 φ k B w g vs j hB b).mono λq w' ⟨v,r,h',g',p,⟨L,n,_,i⟩,_,d,l⟩=>?_
 subst n
 rw[jW k] at d l
 have a:(fill φ h).length=h.length:=jo
 refine⟨v,_,h,g',p,⟨rfl,rfl⟩,.refl,d.drop rfl (by have:=j.ids;exact this),?_⟩
 refine Jg d.ok o l (i _ a) (λid hid=>by rw[a];exact i.root id hid) (by rw[a];exact m)
theorem kma{e d:Nat}{rows b:List (List AV)}(p:0<e)(u:0<d)(D:qM h.length rows=true)(l:qM h.length b=true)(c:ACalls P f ar h λr h'=>∃L y z,h'=h++L/\NoRes L/\r= .tup [y,z]/\New h e y rows L/\New h d z b L):ACalls P f ar h λr h'=>r= .tup [.sl e rows,.sl d b]/\h'=h:=by
 refine⟨c.1,⟨_,_,⟨rfl,rfl⟩,.refl⟩,λφ n B w g vs o hB i=>?_⟩
 refine(c.2.2 φ n B w g vs o hB i).mono λG w' ⟨v,r,h',g',s,⟨L,y,z,A,_,C,n1,n2⟩,_,j,m⟩=>?_
 subst A C
 rw[jW n] at j m
 have a:(fill φ h).length=h.length:=jo
 obtain⟨us,rfl,x,H,t,a1,q,F,E,a2,k⟩:=m
 have k:F=[]:=k
 subst k E
 refine⟨_,_,h,g',s,⟨rfl,rfl⟩,.refl,j.drop rfl (by have:=o.ids;exact this),us,rfl,?_⟩
 rw[t]
 exact⟨x,_,rfl,Jg j.ok p a1 (n1 _ a) (λid hid=>by rw[a];exact n1.root id hid) (by rw[a];exact D),q,_,rfl,Jg j.ok u a2 (n2 _ a) (λid hid=>by rw[a];exact n2.root id hid) (by rw[a];exact l),rfl⟩
def WeakV(r a:AV):Prop:=∀(c:Ctx) (v:Value),AR c r v->AR c a v
theorem WeakV.refl(r:AV):WeakV r r:=λ_ _ h=>h
theorem WeakV.nil(e:Nat):WeakV (.v (.slice none 0 0)) (.sl e []):=λ_ v h=>by
 have h:v= .slice none 0 0:=h
 subst h
 exact⟨none,0,rfl,zo _,True.intro⟩
theorem WeakV.two{a d b b':AV}(k:WeakV a d)(j:WeakV b b'):WeakV (.tup [a,b]) (.tup [d,b']):=λc v ⟨vs,e,x,r,h,a1,y,f,g,a2,i⟩=>⟨vs,e,x,r,h,k c x a1,y,f,g,j c y a2,i⟩
theorem wP{R i:AV->List Ob->Prop}(c:ACalls P f ar h R)(e:∀r h',R r h'->∃b,i b h'/\WeakV r b):ACalls P f ar h i:=by
 refine⟨c.1,?_,λφ q B w g vs k hB a=>?_⟩
 ·obtain⟨r,h',t,l⟩:=c.2.1
  obtain⟨b,d,_⟩:=e r h' t
  exact⟨b,h',d,l⟩
 ·refine(c.2.2 φ q B w g vs k hB a).mono λu w' ⟨v,r,h',g',p,o,j,n,s⟩=>?_
  obtain⟨b,d,m⟩:=e r h' o
  exact⟨v,b,h',g',p,d,j,n,m _ _ s⟩
theorem Ko{e:Nat}{rows:List (List AV)}(c:ACalls P f ar h λr h'=>(r= .sl e rows∨r= .v (.slice none 0 0)/\rows=[])/\h'=h):ACalls P f ar h λr h'=>r= .sl e rows/\h'=h:=
 wP c λr h' ⟨q,a⟩=>by
  rcases q with rfl|⟨rfl,rfl⟩
  ·exact⟨_,⟨rfl,a⟩,.refl _⟩
  ·exact⟨_,⟨rfl,a⟩,.nil e⟩
theorem Vi{rs:List ResultVar}{T:Env}{h0 h':List Ob}{ty e:Nat}{x:AV}{rows:List (List AV)}(b:VG P T h' rs=some x)(c:Pre h0 h')(d:OwnS h0 h' ty e x rows):vIa P rs h0 (λr h''=>∃L,h''=h0++L/\NoRes L/\New h0 e r rows L) .ret T h':=by
 obtain⟨L,rfl,a⟩:=c
 exact⟨x,b,.inl ⟨L,rfl,a,d.new (zo _)⟩⟩
end Go.Proofs.YtigdlmpjijhpaaaGreat.Ax
namespace Go.Proofs.YtigdlmpjijhpaaaGreat.Ax
open Go Go.Proofs
set_option maxRecDepth 100000
def spv(l:List Spn):AV:= .sl 2 (l.map qJ)
theorem xb{h:List Ob}(l:List Spn):SlOf h (spv l) 2 (l.map qJ):=⟨rfl,λ_=>rfl⟩
theorem Xxa{h:List Ob}(l:List Spn):qa h (spv l)=some (l.map qJ):=rfl
theorem jwb{h:List Ob}(l:List Spn):eOf h (spv l)=some 2:=rfl
theorem VVa(l:List Spn):AV.one (spv l)=true:=rfl
theorem Qka(l:List Spn):AV.cells (spv l)=some [spv l]:=rfl
theorem Jh{n:Nat}:∀l:List Spn,qM n (l.map qJ)=true
 | []=>rfl
 | s::l=>by
   rw[List.map_cons,qM,Jh l];rfl
theorem J8{n:Nat}(l:List Spn):(spv l).lt n=true:=Jh l
attribute [go_sem] Xxa jwb VVa Qka
theorem J9(h:List Ob)(x:AV)(l:List Spn)(a:SlOf h x 2 (l.map qJ))(b:l.length<1099511627776):
  ACalls Tryz.prog 70 [x] h λr h'=>r=spv (qz l)/\h'=h:=jX (by decide) (Jh _) (c65 h x l a b)
theorem Ji{l:List Spn}{i:Nat}(h:i<l.length):(l.map qJ)[i]? =some (qJ l[i]):=by rw[zz,zj h];rfl
theorem Xya{h:List Ob}{i id ty d e st:Nat}{cs:List AV}{rows:List (List AV)}(b:h[i]? =some (.box ty cs))(c:h[id]? =some (.row d e rows st))(M:List Ob)(o:Ob):((h++M).set id o)[i]? =some (.box ty cs):=by
 have a:id≠i:=λq=>by rw[q,b] at c;cases c
 rw[zc a]
 exact ze b
theorem zmb(h:List Ob)(x y:AV)(a b:List Spn)(hx:SlOf h x 2 (a.map qJ))(hy:SlOf h y 2 (b.map qJ))(ha:a.length<1048576)(hb:b.length<1048576):
  ACalls Tryz.prog 192 [x,y] h λr h'=>r=spv (Vg a b)/\h'=h:=by
 refine zi Tryz.f192 [.tmp 4] 42 rfl rfl rfl rfl rfl rfl (by decide) (⟨_,_,⟨rfl,rfl⟩,.refl⟩) λB=>?_
 simp only[go_sem]
 refine zg (J9 _ x a hx (by omega)) ?_
 rintro _ G ⟨rfl,rfl⟩
 obtain⟨u,Y⟩:∃u,u=qz a:=⟨_,rfl⟩
 obtain⟨v,hv⟩:∃v,v=qz b:=⟨_,rfl⟩
 have ξ:u.length<1048576:=by have:=qj a;rw[Y];omega
 have κ:v.length<1048576:=by have:=qj b;rw[hv];omega
 rw[<-Y]
 have hand:Vg a b=qz (Zj u v):=by rw[Y,hv];rfl
 rw[hand]
 simp only[go_sem,zb]
 refine zI (by decide) (λm T h'=>∃i:Nat,i<=u.length/\Pre G h'/\OwnS G h' 143 2 (T 5) ((Zj (u.take i) v).map qJ)/\T 1=y/\T 11=spv u/\T 12=i64 u.length/\T 13=i64 i/\m=u.length - i) u.length
  ⟨0,by omega,Pre.refl,.inl ⟨by simp only[go_sem],rfl⟩,by simp only[go_sem],by simp only[go_sem],by(simp only[go_sem]<;>rfl),by(simp only[go_sem]<;>rfl),rfl⟩ ?_
 rintro m T h' ⟨i,hi,n,o,t1,f,d,c,rfl⟩
 simp only[go_sem,d,c]
 refine ways (λe=>?_) (λe=>?_)
 ·have R:=dlt e
  have C:=Ji R
  have V:(i:Int)<u.length:=by omega
  have s:=woa (u.take i) v u[i]
  rw[zE R] at s
  have t:(Zj (u.take i) v).length<=1048576*1048576:=by
   rw[qTa,zJ]
   exact Nat.mul_le_mul (by omega) (by omega)
  obtain⟨z,hz⟩:∃z,z=u[i]:=⟨_,rfl⟩
  rw[<-hz] at C s
  obtain⟨H,α⟩:∃H,H=Zj (u.take i) v:=⟨_,rfl⟩
  rw[<-α] at o s t
  simp only[go_sem,t1,f,c,C,V,zb,Int.toNat_natCast,zh]
  refine zg (J9 _ y b ((n.app (zD rfl)).sl hy) (by omega)) ?_
  rintro _ h6 ⟨rfl,rfl⟩
  rw[<-hv]
  simp only[go_sem,zb]
  obtain⟨J,p⟩:∃J,J=h'++[Ob.box 143 (qJ z)]:=⟨_,rfl⟩
  rw[show h'++[Ob.box 143 [i64 z.from_,i64 z.to_]]=J from p.symm]
  have S:J[h'.length]? =some (.box 143 (qJ z)):=by rw[p];exact zM rfl
  have ζ:=n.len
  have U:Pre G J:=by rw[p];exact n.app (zD rfl)
  have P:OwnS G J 143 2 (T 5) (H.map qJ):=by rw[p];exact o.app _
  refine zI (by decide) (λm l I=>∃j:Nat,j<=v.length/\Pre G I/\OwnS G I 143 2 (l 5) ((H++(v.take j).map (ZK z)).map qJ)/\I[h'.length]? =some (.box 143 (qJ z))/\l 1=y/\l 7= .ptr h'.length 0/\l 11=spv u/\l 12=i64 u.length/\l 13=i64 i/\l 18=spv v/\l 19=i64 v.length/\l 20=i64 j/\m=v.length - j) v.length
   ⟨0,by omega,U,by(simp only[go_sem];simpa using P),S,by simp only[go_sem,t1],by simp only[go_sem],by simp only[go_sem,f],by simp only[go_sem,d],by simp only[go_sem,c],by simp only[go_sem],by(simp only[go_sem]<;>rfl),by(simp only[go_sem]<;>rfl),rfl⟩ ?_
  clear n o U P t1 f d c S
  rintro m l I ⟨j,hj,n,o,N,t1,t7,f,d,c,Q,E,F,rfl⟩
  simp only[go_sem,E,F]
  refine ways (λe=>?_) (λe=>?_)
  ·have w:=dlt e
   have g:=Ji w
   have A:(j:Int)<v.length:=by omega
   have k:(v.take (j+1)).map (ZK z)=(v.take j).map (ZK z)++[ZK z v[j]]:=by rw[<-zE w,zw];rfl
   obtain⟨q,hq⟩:∃q,q=v[j]:=⟨_,rfl⟩
   rw[<-hq] at g k
   have hA:List.length (qJ (ZK z q))=2:=rfl
   have K:∀M,(I++M)[h'.length]? =some (.box 143 (qJ z)):=λM=>ze N
   have D:(H.length+min j v.length+1)*17<=140737488355328:=by omega
   rcases o with⟨t5,O⟩|⟨id,st,u1,t5,u3⟩
   ·simp only[go_sem,t5,t7,Q,F,K,g,A,zb,Int.toNat_natCast,zh,Q8,Q7]
    refine⟨v.length - (j+1),by omega,j+1,by omega,n.app (zl rfl (zl rfl (zD rfl))),.inr ⟨_,_,by have:=n.len;omega,rfl,?_⟩,t1,f,d,c,E,qf (by omega) rfl,rfl⟩
    rw[k, <-zt,zw,O,zG rfl]
    rfl
   ·have hg:∀M,(I++M)[id]? =some (.row 143 2 ((H++(v.take j).map (ZK z)).map qJ) st):=λM=>ze u3
    simp only[go_sem,t5,t7,Q,F,K,hg,D,g,A,zb,zJ,Int.toNat_natCast,zh,Q8,Q7]
    refine⟨v.length - (j+1),by omega,j+1,by omega,(n.app (zl rfl (zD rfl))).set u1 rfl,.inr ⟨id,st+1,u1,rfl,?_⟩,Xya N u3 _ _,t1,f,d,c,E,qf (by omega) rfl,rfl⟩
    rw[k, <-zt,zw (l₂:=[ZK z q])]
    exact zm (hg _)
  ·have W:=j9 e
   have Z:j=v.length:=by omega
   subst Z
   rw[zP, <-s] at o
   simp only[go_sem,c]
   exact⟨u.length - (i+1),by omega,i+1,by omega,n,o,t1,f,d,qf (by omega) rfl,rfl⟩
 ·have W:=j9 e
  have X:i=u.length:=by omega
  subst X
  rw[zP] at o
  have t:(Zj u v).length<=1048575*1048575:=by
   rw[qTa]
   exact Nat.mul_le_mul (by omega) (by omega)
  simp only[go_sem]
  refine zg (J9 _ _ (Zj u v) o.rows (by omega)) ?_
  rintro _ h6 ⟨rfl,rfl⟩
  simp only[go_sem]
  obtain⟨L,rfl,_⟩:=n
  exact Xt (by simp only[go_sem]) (J8 _)
theorem yEa(h:List Ob)(x:AV)(l:List Spn)(a:SlOf h x 2 (l.map qJ))(b:l.length<1048576):
  ACalls Tryz.prog 22 [x] h λr h'=>r=i64 (jR (qz l))/\h'=h:=c30 h x l a b
def vk(l:List Spn)(n size:Int):List Spn:=if n<0∨n>32054400 / size then [] else Vg l [⟨n*size,(n+1)*size⟩]
theorem znb(h:List Ob)(x:AV)(l:List Spn)(n size:Int)(i:SlOf h x 2 (l.map qJ))(o:l.length<1048576)(d:size=86400∨size=604800):
  ACalls Tryz.prog 189 [x,i64 n,i64 size] h λr h'=>(r=spv (vk l n size)∨r= .v (.slice none 0 0)/\vk l n size=[])/\h'=h:=by
 have f:IntKind.wrap .i64 (Int.tdiv 32054400 size)=32054400 / size:=by rcases d with rfl|rfl<;>rfl
 have h0:¬ size=0:=by omega
 have j:32054400 / size<=371:=by rcases d with rfl|rfl<;>decide
 have hex:∃r h',((r=spv (vk l n size)∨r=AV.v (.slice none 0 0)/\vk l n size=[])/\h'=h)/\ResK h h':=⟨_,_,⟨.inl rfl,rfl⟩,.refl⟩
 refine zi Tryz.f189 [.tmp 6] 26 rfl rfl rfl rfl rfl rfl (by decide) (hex) λB=>?_
 simp only[go_sem]
 cases b:decide (n<0)
 ·have e:¬ n<0:=of_decide_eq_false b
  cases c:decide (n>32054400 / size)
  ·have g:¬ n>32054400 / size:=of_decide_eq_false c
   have a:vk l n size=Vg l [⟨n*size,(n+1)*size⟩]:=by unfold vk;rw[if_neg (by omega)]
   have s:n*size<=371*604800/\0<=n*size/\(n+1)*size<=372*604800/\0<=(n+1)*size:=by
    rcases d with rfl|rfl<;>omega
   have k:IntKind.wrap .i64 (n*size)=n*size:=qp (n:=n*size) (by unfold Fit;omega)
   have p:IntKind.wrap .i64 (n+1)=n+1:=qp (n:=n+1) (by unfold Fit;omega)
   have m:IntKind.wrap .i64 ((n+1)*size)=(n+1)*size:=qp (n:=(n+1)*size) (by unfold Fit;omega)
   simp only[go_sem,b,c,f,h0,qt,k,p,m]
   refine zg (zmb _ x _ l [⟨n*size,(n+1)*size⟩] (i.app _) (OwnS.rows (h0:=h) (ty:=143) (.inr ⟨_,_,zo _,rfl,by rw[zM rfl];rfl⟩)) o (by simp)) ?_
   rintro _ q ⟨rfl,rfl⟩
   simp only[go_sem]
   exact⟨spv (vk l n size),by(simp only[go_sem];rw[a]),.inr ⟨h,_,rfl,rfl,J8 _,.refl,.inl rfl,rfl⟩⟩
  ·have g:=of_decide_eq_true c
   have a:vk l n size=[]:=by unfold vk;rw[if_pos (by omega)]
   simp only[go_sem,b,c,f,h0,qt]
   exact⟨_,by simp only[go_sem],.inl ⟨.inr ⟨rfl,a⟩,rfl⟩⟩
 ·have e:=of_decide_eq_true b
  have a:vk l n size=[]:=by unfold vk;rw[if_pos (by omega)]
  simp only[go_sem,b,f,h0,qt]
  exact⟨_,by simp only[go_sem],.inl ⟨.inr ⟨rfl,a⟩,rfl⟩⟩
theorem YEa(h:List Ob)(x:AV)(l:List Spn)(n size:Int)(a:SlOf h x 2 (l.map qJ))(c:l.length<1048576)(b:size=86400∨size=604800):
  ACalls Tryz.prog 189 [x,i64 n,i64 size] h λr h'=>r=spv (vk l n size)/\h'=h:=
 Ko ((znb h x l n size a c b).mono λr h' ⟨q,e⟩=>⟨q.imp_right λq=>⟨q.1,by rw[q.2];rfl⟩,e⟩)
def xm(l:List Spn)(d:Int):List Spn:=vk l d 86400
def jr(l:List Spn)(k:Int):List Spn:=vk l k 604800
theorem wqa(h:List Ob)(x:AV)(l:List Spn)(d:Int)(a:SlOf h x 2 (l.map qJ))(b:l.length<1048576):
  ACalls Tryz.prog 241 [x,i64 d] h λr h'=>r=spv (xm l d)/\h'=h:=by
 refine zi Tryz.f241 [.tmp 4] 8 rfl rfl rfl rfl rfl rfl (by decide) (⟨_,_,⟨rfl,rfl⟩,.refl⟩) λB=>?_
 simp only[go_sem]
 refine zg (YEa h x l d 86400 a b (.inl rfl)) ?_
 rintro _ c ⟨rfl,rfl⟩
 simp only[go_sem]
 exact Kf (by simp only[go_sem];rfl)
theorem yFa(h:List Ob)(x:AV)(l:List Spn)(k:Int)(a:SlOf h x 2 (l.map qJ))(b:l.length<1048576):
  ACalls Tryz.prog 117 [x,i64 k] h λr h'=>r=spv (jr l k)/\h'=h:=by
 refine zi Tryz.f117 [.tmp 4] 8 rfl rfl rfl rfl rfl rfl (by decide) (⟨_,_,⟨rfl,rfl⟩,.refl⟩) λB=>?_
 simp only[go_sem]
 refine zg (YEa h x l k 604800 a b (.inr rfl)) ?_
 rintro _ c ⟨rfl,rfl⟩
 simp only[go_sem]
 exact Kf (by simp only[go_sem];rfl)
theorem QG(l:List Spn)(n size:Int):(vk l n size).length<=(qz l).length+1:=by
 unfold vk
 split
 ·simp
 ·have b:=zea l [⟨n*size,(n+1)*size⟩]
  have a:=qj [(⟨n*size,(n+1)*size⟩:Spn)]
  simp at a
  omega
def jY(n:Int):Int:=ofI n 86400
theorem jxb(n:Int):xA Tryz.prog 240 [i64 n] (i64 (jY n)):=λh=>by
 refine zi Tryz.f240 [.tmp 2] 5 rfl rfl rfl rfl rfl rfl (by decide) (⟨_,_,⟨rfl,rfl⟩,.refl⟩) λB=>?_
 simp only[go_sem]
 refine zg (c51 n 86400 (by decide) _) ?_
 rintro _ a ⟨rfl,rfl⟩
 simp only[go_sem]
 refine zn ?_<;>(simp only[go_sem,jY]<;>try rfl)
def ZL:List Spn->List Spn->Int->List Spn
 | o,[],_=>o
 | o,s::r,n=>if n<=0 then o else ZL (o++[Je s n]) r (n - ((Je s n).to_ - s.from_))
theorem kna:∀(l o:List Spn) (n:Int),ZL o l n=o++Jf l n
 | [],o,n=>by simp[ZL,Jf]
 | s::r,o,n=>by
   rw[ZL,Jf]
   split
   ·simp
   ·rw[kna r];simp
theorem koa{v o:List Spn}{i:Nat}{n:Int}(hi:i<v.length):ZL o (v.drop i) n=if n<=0 then o else ZL (o++[Je v[i] n]) (v.drop (i+1)) (n - ((Je v[i] n).to_ - (v[i]).from_)):=by
 rw[qU hi,ZL]
theorem VWa(h:List Ob)(x:AV)(l:List Spn)(n:Int)(P:SlOf h x 2 (l.map qJ))(Z:l.length<1048576)(X:Fit n):
  ACalls Tryz.prog 187 [x,i64 n] h λr h'=>∃L,h'=h++L/\NoRes L/\New h 2 r ((qP l n).map qJ) L:=by
 have hex:∃r h',(∃L,h'=h++L/\NoRes L/\New h 2 r ((qP l n).map qJ) L)/\ResK h h':=
  ⟨.sl 2 _,_,⟨[],rfl,jh,λ_ _=>⟨rfl,λ_=>rfl⟩⟩,resK_app⟩
 refine zi Tryz.f187 [.tmp 4] 38 rfl rfl rfl rfl rfl rfl (by decide) (hex) λB=>?_
 simp only[go_sem]
 refine zg (J9 _ x l P (by omega)) ?_
 rintro _ F ⟨rfl,rfl⟩
 have c:qP l n=ZL [] ((qz l).drop 0) n:=by rw[kna];rfl
 have g:= @va l
 rw[c]
 obtain⟨v,K⟩:∃v,v=qz l:=⟨_,rfl⟩
 have V:v.length<1048576:=by have:=qj l;rw[K];omega
 rw[<-K] at g⊢
 obtain⟨W,N⟩:∃W,W=ZL [] (v.drop 0) n:=⟨_,rfl⟩
 rw[<-N]
 simp only[go_sem,zb]
 refine zI (by decide) (λm T h'=>∃(i:Nat) (o:List Spn) (k:Int),i<=v.length/\o.length<=i/\Fit k/\ZL o (v.drop i) k=W/\Pre F h'/\OwnS F h' 143 2 (T 4) (o.map qJ)/\T 1=i64 k/\T 8=spv v/\T 9=i64 v.length/\T 10=i64 i/\m=v.length - i) v.length
  ⟨0,[],n,by omega,by simp,X,N.symm,Pre.refl,.inl ⟨by simp only[go_sem],rfl⟩,by simp only[go_sem],by simp only[go_sem],by(simp only[go_sem]<;>rfl),by(simp only[go_sem]<;>rfl),rfl⟩ ?_
 rintro m T h' ⟨i,o,k,hi,Y,w,a,u,D,t1,t8,t9,t10,rfl⟩
 simp only[go_sem,t9,t10]
 refine ways (λe=>?_) (λe=>?_)
 ·have d:=dlt e
  have b:=Ji d
  have A:(i:Int)<v.length:=by omega
  have Q:=g _ (zy d)
  rw[koa d] at a
  obtain⟨z,R⟩:∃z,z=v[i]:=⟨_,rfl⟩
  rw[<-R] at b a Q
  simp only[go_sem,t1,t8,t10,b,A,zb,Int.toNat_natCast,zh]
  refine ways (λf=>?_) (λf=>?_)
  ·have f:k<=0:=of_decide_eq_true f
   rw[if_pos f] at a
   simp only[go_sem]
   subst a
   exact Vi (by simp only[go_sem]) (u.app (zD rfl)) (D.app _)
  ·have f:¬ k<=0:=of_decide_eq_false f
   rw[if_neg f] at a
   obtain⟨y,E⟩:∃y,y=Je z k:=⟨_,rfl⟩
   have j:y.from_=z.from_:=by rw[E];rfl
   have s:y.to_=min z.to_ (z.from_+min k 32054400):=by rw[E];rfl
   have H:IntKind.wrap .i64 (z.from_+min k 32054400)=z.from_+min k 32054400:=qp (n:=z.from_+min k 32054400) (by unfold Fit at w ⊢;omega)
   have G:IntKind.wrap .i64 (y.to_ - z.from_)=y.to_ - z.from_:=qp (n:=y.to_ - z.from_) (by unfold Fit at w ⊢;omega)
   have O:IntKind.wrap .i64 (k - (y.to_ - z.from_))=k - (y.to_ - z.from_):=qp (n:=k - (y.to_ - z.from_)) (by unfold Fit at w ⊢;omega)
   have p:Fit (k - (y.to_ - z.from_)):=by unfold Fit at w ⊢;omega
   rw[<-E] at a
   have hA:List.length (qJ y)=2:=rfl
   have t:(o.length+1)*17<=140737488355328:=by omega
   rcases D with⟨t4,q⟩|⟨id,st,I,t4,U⟩
   ·simp only[go_sem,t1,t4,t8,t10,zb,Q7,H, <-s,G,O]
    refine⟨v.length - (i+1),by omega,i+1,o++[y],_,by omega,by simp;omega,p,a,u.app (zl rfl (zl rfl (zD rfl))),.inr ⟨_,_,by have:=u.len;omega,rfl,?_⟩,rfl,t9,qf (by omega) rfl,rfl⟩
    rw[zw,q,zG rfl, <-j]
    rfl
   ·have J:∀M,(h'++M)[id]? =some (.row 143 2 (o.map qJ) st):=λM=>ze U
    simp only[go_sem,t1,t4,t8,t10,J,t,zb,Q7,H, <-s,G,O]
    refine⟨v.length - (i+1),by omega,i+1,o++[y],_,by omega,by simp;omega,p,a,(u.app (zl rfl (zD rfl))).set I rfl,.inr ⟨id,st+1,I,rfl,?_⟩,rfl,t9,qf (by omega) rfl,rfl⟩
    rw[zw, <-j]
    exact zm (J _)
 ·have S:=j9 e
  have C:i=v.length:=by omega
  subst C
  rw[List.drop_length,ZL] at a
  subst a
  simp only[go_sem]
  exact Vi (by simp only[go_sem]) u D
theorem jZa(h:List Ob)(x:AV)(l:List Spn)(n:Int)(a:SlOf h x 2 (l.map qJ))(c:l.length<1048576)(b:Fit n):
  ACalls Tryz.prog 187 [x,i64 n] h λr h'=>r=spv (qP l n)/\h'=h:=jX (by decide) (Jh _) (VWa h x l n a c b)
end Go.Proofs.YtigdlmpjijhpaaaGreat.Ax
namespace Go.Proofs.YtigdlmpjijhpaaaGreat.Ax
open Go Go.RowKit
structure LIn (F:List (Nat × Ob)) (h0 h:List Ob) (i bty ty e:Nat) (rows:List (List AV)):Prop where
 pre:Pre h0 h
 le:h0.length<=i
 kept:∀z∈F,z.1≠i/\(∃t cs,z.2= .box t cs)/\h[z.1]? =some z.2
 at_:∃x,h[i]? =some (.box bty [x])/\OwnS h0 h ty e x rows
variable {F:List (Nat × Ob)} {h0 h:List Ob} {i bty ty e:Nat} {rows rows':List (List AV)}
theorem LIn.app(k:LIn F h0 h i bty ty e rows){M:List Ob}(b:NoRes M):LIn F h0 (h++M) i bty ty e rows:=by
 obtain⟨k1,k2,k3,x,k4,k5⟩:=k
 exact⟨k1.app b,k2,λz a=>⟨(k3 z a).1,(k3 z a).2.1,ze (k3 z a).2.2⟩,x,ze k4,k5.app M⟩
theorem LIn.lt(k:LIn F h0 h i bty ty e rows):i<h.length:=by
 obtain⟨x,k4,_⟩:=k.at_
 exact(zd.1 k4).1
theorem LIn.push_nil(k:LIn F h0 h i bty ty e rows){M:List Ob}(c:NoRes M){id:Nat}(hid:h.length<=id)(b:(h++M)[id]? =some (.row ty e rows' 0)):LIn F h0 ((h++M).set i (.box bty [.tl id 0])) i bty ty e rows':=by
 have hi:=k.lt
 have d:=k.pre.len
 have k':=k.app c
 refine⟨k'.pre.set k.le rfl,k.le,λz a=>⟨(k.kept z a).1,(k.kept z a).2.1,?_⟩,.tl id 0,?_,.inr ⟨id,0,by omega,rfl,?_⟩⟩
 ·rw[zc (Ne.symm (k.kept z a).1)];exact(k'.kept z a).2.2
 ·rw[zp (by rw[zf];omega)]
 ·rw[zc (by omega)];exact b
theorem LIn.push_own(k:LIn F h0 h i bty ty e rows){M:List Ob}(g:NoRes M){id st:Nat}(hid:h0.length<=id)(a:h[id]? =some (.row ty e rows st)):LIn F h0 (((h++M).set id (.row ty e rows' (st+1))).set i (.box bty [.tl id (st+1)])) i bty ty e rows':=by
 have hi:=k.lt
 have o:=k.pre.len
 have k':=k.app g
 obtain⟨x,f,_⟩:=k.at_
 have c:id≠i:=λq=>by rw[q,f] at a;cases a
 have l:=(zd.1 a).1
 refine⟨(k'.pre.set hid rfl).set k.le rfl,k.le,λz b=>⟨(k.kept z b).1,(k.kept z b).2.1,?_⟩,.tl id (st+1),?_,.inr ⟨id,st+1,hid,rfl,?_⟩⟩
 ·obtain⟨n,⟨t,cs,j⟩,m⟩:=k.kept z b
  have d:id≠z.1:=λq=>by rw[q,m,j] at a;cases a
  rw[zc (Ne.symm n),zc d]
  exact(k'.kept z b).2.2
 ·rw[zp (by rw[zN,zf];omega)]
 ·rw[zc (Ne.symm c),zp (by rw[zf];omega)]
theorem LIn.any(k:LIn F h0 h i bty ty e rows)(rows':List (List AV)):∃h',LIn F h0 h' i bty ty e rows'/\ResK h h':=by
 have q:=k.push_nil (M:=[.row ty e rows' 0]) (zD rfl) (id:=h.length) (zo _) (by rw[zM rfl];rfl)
 exact⟨_,q,k.pre.resK q.pre⟩
theorem LIn.keep(k:LIn F h0 h i bty ty e rows){z:Nat × Ob}(a:z∈F):h[z.1]? =some z.2:=(k.kept z a).2.2
end Go.Proofs.YtigdlmpjijhpaaaGreat.Ax
namespace Go.Proofs.YtigdlmpjijhpaaaGreat.Ax
open Go Go.Proofs
set_option maxRecDepth 100000
def Jj(o:List Int)(d:Int):List Int:=match o.getLast? with
 | none=>[d]
 | some x=>if x<d then o++[d] else o
theorem Xza(o:List Int)(d:Int):(Jj o d).length<=o.length+1:=by
 unfold Jj
 split
 ·simp
 ·split<;>simp
def Kp(o:List Int)(a:Int):Nat->List Int
 | 0=>o
 | k+1=>Jj (Kp o a k) (a+k)
theorem zha(o:List Int)(a:Int):∀k,(Kp o a k).length<=o.length+k
 | 0=>zo _
 | k+1=>by
   have b:=zha o a k
   have c:=Xza (Kp o a k) (a+k)
   rw[Kp];omega
def kT(o:List Int)(s:Spn):List Int:=Kp o (jY s.from_) (jY (s.to_ - 1) - jY s.from_+1).toNat
def qR(l:List Spn):List Int:=(qz l).foldl kT []
theorem yE(n:Int):0<=jY n/\jY n<371:=by
 unfold jY ofI qI
 have h0:0<=min (max n 0) 32054399/\min (max n 0) 32054399<=32054399:=by omega
 rw[Int.tdiv_eq_ediv_of_nonneg h0.1,qp (by unfold Fit;omega)]
 omega
theorem kpa(o:List Int)(s:Spn):(kT o s).length<=o.length+372:=by
 have b:=zha o (jY s.from_) (jY (s.to_ - 1) - jY s.from_+1).toNat
 have a:=yE s.from_
 have c:=yE (s.to_ - 1)
 unfold kT
 omega
theorem zob(F:List (Nat × Ob))(h0 h:List Ob)(i:Nat)(o:List Int)(d:Int)(k:LIn F h0 h i 27 3 1 (o.map qn))(J:o.length<1099511627776):
  ACalls Tryz.prog 239 [i64 d,.ptr i 0] h λr h'=>r= .tup []/\LIn F h0 h' i 27 3 1 ((Jj o d).map qn):=by
 have hex:∃r h',(r=AV.tup []/\LIn F h0 h' i 27 3 1 ((Jj o d).map qn))/\ResK h h':=by
  obtain⟨h',E,I⟩:=k.any ((Jj o d).map qn)
  exact⟨_,h',⟨rfl,E⟩,I⟩
 obtain⟨x,c,n⟩:=k.at_
 have j:qa h x=some (o.map qn):=n.rows.rows
 have K:List.length (qn d)=1:=rfl
 have f:(o.length+1)*9<=140737488355328:=by omega
 refine zi Tryz.f239 [] 21 rfl rfl rfl rfl rfl rfl (by decide) (hex) λB=>?_
 simp only[go_sem,c,j,zb]
 rcases n with⟨rfl,p⟩|⟨id,st,G,rfl,g⟩
 ·have t:o=[]:=by simpa using p
  subst t
  have b:∀M,(h++M)[i]? =some (.box 27 [.v (.slice none 0 0)]):=λM=>ze c
  simp only[go_sem,c,b]
  exact⟨_,rfl,.inl ⟨rfl,k.push_nil (zl rfl (zD rfl)) (by omega) (by rw[zG (k:=1) rfl];rfl)⟩⟩
 ·have C:∀M,(h++M)[id]? =some (.row 3 1 (o.map qn) st):=λM=>ze g
  have b:∀M,(h++M)[i]? =some (.box 27 [.tl id st]):=λM=>ze c
  have s:id≠i:=λq=>by rw[q,c] at g;cases g
  have e:∀M o',((h++M).set id o')[i]? =some (.box 27 [.tl id st]):=λM o'=>by
   rw[zc s];exact b M
  have app:∀M,NoRes M->Jj o d=o++[d]->LIn F h0 (((h++M).set id (.row 3 1 (o.map qn++[[i64 d]]) (st+1))).set i (.box 27 [.tl id (st+1)])) i 27 3 1 ((Jj o d).map qn):=λM H q=>by
   rw[q,zw]
   exact k.push_own H G g
  cases a:o.getLast? with
  | none=>
    have t:o=[]:=by simpa using a
    subst t
    simp only[go_sem,c]
    simp only[go_sem,b,C,f,e]
    exact⟨_,rfl,.inl ⟨rfl,app _ (zD rfl) rfl⟩⟩
  | some z=>
    have y:0<o.length:=by cases o with|nil=>cases a|cons _ _=>simp
    have w:(o.map qn)[o.length - 1]? =some [i64 z]:=by
     rw[zz]
     rw[List.getLast?_eq_getElem?] at a
     rw[a];rfl
    have m:((o.length:Int)==0)=false:=by rw[beq_eq_false_iff_ne];omega
    have A:IntKind.wrap .i64 ((o.length:Int) - 1)=((o.length - 1:Nat):Int):=K5 (by omega) (by omega)
    have l:((o.length - 1:Nat):Int)<o.length:=by omega
    have j:qa h (.tl id st)=some (o.map qn):=j
    have D:eOf h (.tl id st)=some 1:=by rw[jP,g,wl]
    cases q:decide (z<d)
    ·have u:Jj o d=o:=by unfold Jj;rw[a];simp only;rw[if_neg (of_decide_eq_false q)]
     simp only[go_sem,m,c,g,A,w,l,qt,q,zb,Int.toNat_natCast,zh]
     exact⟨_,rfl,.inl ⟨rfl,by rw[u];exact k⟩⟩
    ·have u:Jj o d=o++[d]:=by unfold Jj;rw[a];simp only;rw[if_pos (of_decide_eq_true q)]
     simp only[go_sem,m,c,g,A,w,l,qt,q,zb,Int.toNat_natCast,zh]
     simp only[go_sem,b,C,f,e,zb]
     exact⟨_,rfl,.inl ⟨rfl,app _ (zD rfl) u⟩⟩
theorem zpb(h:List Ob)(x:AV)(l:List Spn)(U:SlOf h x 2 (l.map qJ))(hl:l.length<1048576):
  ACalls Tryz.prog 182 [x] h λr h'=>∃L,h'=h++L/\NoRes L/\New h 1 r ((qR l).map qn) L:=by
 have hex:∃r h',(∃L,h'=h++L/\NoRes L/\New h 1 r ((qR l).map qn) L)/\ResK h h':=
  ⟨.sl 1 _,_,⟨[],rfl,jh,λ_ _=>⟨rfl,λ_=>rfl⟩⟩,resK_app⟩
 refine zi Tryz.f182 [.cell 2 27] 37 rfl rfl rfl rfl rfl rfl (by decide) (hex) λB=>?_
 simp only[go_sem]
 refine zg (J9 _ x l (U.app _) (by omega)) ?_
 rintro _ h4 ⟨rfl,rfl⟩
 have p:qR l=((qz l).take (qz l).length).foldl kT []:=by rw[zP];rfl
 have u:= @va l
 rw[p]
 obtain⟨v,P⟩:∃v,v=qz l:=⟨_,rfl⟩
 have Y:v.length<1048576:=by have:=qj l;rw[P];omega
 rw[<-P] at u⊢
 obtain⟨W,Q⟩:∃W,W=(v.take v.length).foldl kT []:=⟨_,rfl⟩
 rw[<-Q]
 simp only[go_sem,zb]
 refine zI (by decide) (λm T h'=>∃(i:Nat) (o:List Int),i<=v.length/\o=(v.take i).foldl kT []/\o.length<=372*i/\LIn [] h h' h.length 27 3 1 (o.map qn)/\T 2= .ptr h.length 0/\T 3= .fn (.func 239) [] [.ptr h.length 0]/\T 10=spv v/\T 11=i64 v.length/\T 12=i64 i/\m=v.length - i) v.length
  ⟨0,[],by omega,rfl,by simp,⟨⟨_,rfl,zD rfl⟩,zo _,(λz F=>by cases F),_,by rw[zM rfl];rfl,.inl ⟨rfl,rfl⟩⟩,by simp only[go_sem],by simp only[go_sem],by simp only[go_sem],by(simp only[go_sem]<;>rfl),by(simp only[go_sem]<;>rfl),rfl⟩ ?_
 rintro m T h' ⟨i,o,hi,J,δ,k,t2,t3,t10,d,b,rfl⟩
 simp only[go_sem,d,b]
 refine ways (λe=>?_) (λe=>?_)
 ·have s:=dlt e
  have g:=Ji s
  have E:(i:Int)<v.length:=by omega
  have V:=u _ (zy s)
  have C:(v.take (i+1)).foldl kT []=kT o v[i]:=by rw[<-zE s,qK, <-J];rfl
  obtain⟨z,F⟩:∃z,z=v[i]:=⟨_,rfl⟩
  rw[<-F] at g C V
  simp only[go_sem,t10,b,g,E,zb,Int.toNat_natCast,zh]
  refine zg (jxb z.from_ _) ?_
  rintro _ N ⟨rfl,rfl⟩
  have w1:IntKind.wrap .i64 (z.to_ - 1)=z.to_ - 1:=qp (n:=z.to_ - 1) (by unfold Fit;omega)
  simp only[go_sem,w1]
  refine zg (jxb (z.to_ - 1) _) ?_
  rintro _ N ⟨rfl,rfl⟩
  have r1:=yE z.from_
  have r2:=yE (z.to_ - 1)
  have w2:IntKind.wrap .i64 (jY (z.to_ - 1) - jY z.from_)=jY (z.to_ - 1) - jY z.from_:=qp (n:=jY (z.to_ - 1) - jY z.from_) (by unfold Fit;omega)
  have w3:IntKind.wrap .i64 (jY (z.to_ - 1) - jY z.from_+1)=jY (z.to_ - 1) - jY z.from_+1:=qp (n:=jY (z.to_ - 1) - jY z.from_+1) (by unfold Fit;omega)
  simp only[go_sem,w2,w3]
  obtain⟨a,H⟩:∃a,a=jY z.from_:=⟨_,rfl⟩
  obtain⟨c,R⟩:∃c,c=jY (z.to_ - 1) - jY z.from_+1:=⟨_,rfl⟩
  have A:kT o z=Kp o a c.toNat:=by unfold kT;rw[H,R]
  rw[show jY (z.to_ - 1) - jY z.from_+1=c from R.symm,show jY z.from_=a from H.symm]
  rw[<-H] at r1
  have ζ:c<=371:=by omega
  refine zI (by decide) (λm f M=>∃j:Nat,j<=c.toNat/\LIn [] h M h.length 27 3 1 ((Kp o a j).map qn)/\f 2= .ptr h.length 0/\f 3= .fn (.func 239) [] [.ptr h.length 0]/\f 6=i64 a/\f 10=spv v/\f 11=i64 v.length/\f 12=i64 i/\f 25=i64 c/\f 26=i64 j/\m=c.toNat - j) c.toNat
   ⟨0,by omega,k.app (zD rfl),by simp only[go_sem,t2],by simp only[go_sem,t3],by simp only[go_sem],by simp only[go_sem,t10],by simp only[go_sem,d],by simp only[go_sem,b],by simp only[go_sem],by(simp only[go_sem]<;>rfl),rfl⟩ ?_
  clear k t2 t3 t10 d b
  rintro m f M ⟨j,hj,k,t2,t3,t6,t10,d,b,t25,q,rfl⟩
  simp only[go_sem,t25,q]
  refine ways (λe=>?_) (λe=>?_)
  ·have O:(j:Int)<c:=of_decide_eq_true e
   have Z:IntKind.wrap .i64 (a+j)=a+j:=qp (n:=a+j) (by unfold Fit;omega)
   have X:=zha o a j
   simp only[go_sem,t3,t6,q,Z]
   refine zg (zob [] h M h.length (Kp o a j) (a+j) k (by omega)) ?_
   rintro _ N ⟨rfl,k6⟩
   simp only[go_sem,q]
   exact⟨c.toNat - (j+1),by omega,j+1,by omega,k6,t2,t3,t6,t10,d,b,t25,qf (by omega) rfl,rfl⟩
  ·have G:¬ (j:Int)<c:=of_decide_eq_false e
   have K:j=c.toNat:=by omega
   subst K
   simp only[go_sem,b]
   have β:=kpa o z
   exact⟨v.length - (i+1),by omega,i+1,kT o z,by omega,C.symm,by omega,by rw[A];exact k,t2,t3,t10,d,qf (by omega) rfl,rfl⟩
 ·have G:=j9 e
  have I:i=v.length:=by omega
  subst I
  rw[<-Q] at J
  subst J
  obtain⟨S,t,w⟩:=k.at_
  have y:=k.pre
  have D:AV.cells S=some [S]:=w.rows.cells
  simp only[go_sem,t2,t,D]
  rw[qS t]
  exact Vi (by simp only[go_sem,t2,t]) y w
theorem wJ{n:Nat}:∀l:List Int,qM n (l.map qn)=true
 | []=>rfl
 | s::l=>by
   rw[List.map_cons,qM,wJ l];rfl
theorem XAa(h:List Ob)(x:AV)(l:List Spn)(a:SlOf h x 2 (l.map qJ))(b:l.length<1048576):
  ACalls Tryz.prog 182 [x] h λr h'=>r= .sl 1 ((qR l).map qn)/\h'=h:=jX (by decide) (wJ _) (zpb h x l a b)
end Go.Proofs.YtigdlmpjijhpaaaGreat.Ax
namespace Go.Proofs.YtigdlmpjijhpaaaGreat.Ax
open Go Go.RowKit
section
variable {P:Program} {ops:Array Oper} {Q:Exit->Act->World->Prop}
theorem XY(l n:Nat){o:Oper}{a:Act}{w:World}{K K':Act->World->Prop}(s:∀c,o.op≠ .defer c)(d:∀a w,K a w->K' a w)(h:o.wpIn Fence.wide n P a w K Q):o.wpIn (Fence.wide.inRound l) n P a w K' Q:=by
 unfold Oper.wpIn at h⊢
 refine⟨λ_ _=>trivial,?_⟩
 have h:=h.2
 rw[Oper.semAt_eq _ _ _ s] at h⊢
 generalize (execOp a.eval o).run P w=r at h⊢
 have b:∀row args w' (R j:Value->World->Prop),(∀v w,R v w->j v w)->RowsIn Fence.wide (n - 1) P row args w' R->RowsIn (Fence.wide.inRound l) (n - 1) P row args w' j:=λrow args w' R j t h c cs i=>by
  obtain⟨v,m,k,p⟩:=h c cs (room_wide _)
  exact⟨v,m,t _ _ k,p⟩
 cases r with
 | ok x w'=>
   cases x with
   | value v=>exact d _ _ h
   | skip=>exact d _ _ h
   | enter f ar=>exact⟨λg=>(by cases g),CallsIn.inRound l (h.2.mono λe m q=>by cases e<;>first|exact d _ _ q|exact q)⟩
   | row r ar=>exact⟨λg=>(by cases g),b _ _ _ _ _ (λ_ _=>d _ _) h.2⟩
   | round l' f y aZ u=>exact⟨λg=>(by cases g),(show RoundIn Fence.wide _ P l' f y aZ u _ _ from h.2.mono λe m q=>by cases e<;>first|exact d _ _ q|exact q)⟩
   | _=>first|exact h|exact h.elim|exact d _ _ h
 | halt x w'=>
   cases x<;>first|exact h|exact h.elim
def XG(ops:Array Oper):Bool:=ops.toList.all λo=>match o.op with | .defer _=>false|_=>true
theorem zja(h:XG ops=true){i:Nat}{o:Oper}(a:ops[i]? =some o):∀c,o.op≠ .defer c:=by
 intro c b
 unfold XG at h
 rw[qb] at h
 have:=h o (by rw[<-qC] at a;exact qq a)
 rw[b] at this
 cases this
theorem wra(l n:Nat)(d:¬ LetsOut Q)(e:XG ops=true){i:Nat}{a:Act}{w:World}{K:Act->World->Prop}(h:wpOp P ops Q i K a w):wpOpIn (Fence.wide.inRound l) n P ops Q i K a w:=by
 unfold wpOp at h
 unfold wpOpIn
 cases c:ops[i]? with
 | none=>rw[c] at h;exact h
 | some o=>
   rw[c] at h
   simp only at h⊢
   split
   ·rename_i b
    rw[if_pos b] at h
    rcases h with h|⟨_,h⟩
    ·exact XY l n (zja e c) (λ_ _ q=>q) (Qv n h)
    ·exact absurd h d
   ·rename_i b
    rw[if_neg b] at h
    exact⟨λ_ _=>trivial,h⟩
theorem Wx(l n:Nat)(c:¬ LetsOut Q)(d:XG ops=true):∀(b:Nat) (listed:Array Bool) (a:Act) (w:World),wpAny P .any ops Q b listed a w->wpAnyIn (Fence.wide.inRound l) n P .any ops Q b listed a w
 | 0,_,_,_,h=>h
 | b+1,_,_,_,h=>⟨h.1,λi hi=>wra l n c d (wpOp_mono (λe w' h'=>Wx l n c d b _ e w' h') (h.2 i hi))⟩
theorem zka(b n:Nat):∀(l:List Oper) {a:Act} {w:World},(∀o∈l,∀c,o.op≠ .defer c)->wpListIn Fence.wide n P ops Q l a w->wpListIn (Fence.wide.inRound b) n P ops Q l a w
 | [],_,_,_,h=>h
 | o::l,a,w,f,h=>by
   have e:∀a w,wpListIn Fence.wide n P ops Q l a w->wpListIn (Fence.wide.inRound b) n P ops Q l a w:=λa w=>zka b n l λx g=>f x (.tail _ g)
   unfold wpListIn at h⊢
   split
   ·rename_i d
    rw[if_pos d] at h
    exact XY b n (f o (.head _)) e h
   ·rename_i d
    rw[if_neg d] at h
    exact⟨λ_ _=>trivial,e _ _ h.2⟩
end
section
variable {P:Program} {N b:Nat} {T:Env} {h:List Ob} {c c':Code} {ops:Array Oper} {Q Q':xV}
def RWp(P:Program)(N b l:Nat)(c:Code)(Q:xV)(T:Env)(h:List Ob):Prop:=
 ∀(φ:Nat->Ob),Upto φ h.length->∀(w:World) (g:Gh) (a:Act),Rel N ⟨b,[]⟩ w g (fill φ h) a T->c.wpIn (Fence.wide.inRound l) 0 P (λe f w'=>∃d h',Q e d h'/\Aft N ⟨b,[]⟩ φ w g h d h' f w') a w
theorem VYa{l:Nat}(k:RWp P N b l c (yS (RWp P N b l c' Q) Q) T h):RWp P N b l (.seq c c') Q T h:=λφ i w g a r=>by
 refine wpIn_seq (Code.wpIn_mono (λe p w' ⟨n,h',f,d⟩=>?_) (k φ i w g a r))
 have s:=d.len
 cases e<;>first
  | (obtain⟨g',v,q,t⟩:=d;exact Code.wpIn_mono (λ_ _ _ ⟨o,u,j,m⟩=>⟨o,u,j,m.trans v t⟩) (f φ (i.mono s) w' g' p q))
  | exact⟨n,h',f,d⟩
theorem qUa{l id:Nat}(k:RWp P N b l c (QZ id Q) T h):RWp P N b l (.block id c) Q T h:=λφ m w g a r=>by
 refine wpIn_block (Code.wpIn_mono (λe n w' ⟨f,h',d,j⟩=>?_) (k φ m w g a r))
 cases e with
 | exit i=>
   simp only[QZ] at d
   simp only[Exit.inBlock]
   split
   ·rename_i hi;rw[if_pos hi] at d;exact⟨f,h',d,j⟩
   ·rename_i hi;rw[if_neg hi] at d;exact⟨f,h',d,j⟩
 | _=>exact⟨f,h',d,j⟩
theorem Jk{l id:Nat}(d:ops.toList.all (vv N)=true)(j:XG ops=true)(k:wpR P ops (Q .normal) ops.toList T h):RWp P N b l (.region id ops false) Q T h:=λφ f w g a r=>by
 refine wpIn_region ?_
 rw[List.range_eq_range', <-qF,wpOpsIn_eq_wpListIn ops.toList 0 (by simp)]
 refine zka l 0 ops.toList (λo c=>?_) (Zu ops.toList d f (xYa _ k) r λe h' w' m k' q=>⟨e,h',k',q⟩)
 obtain⟨i,hi⟩:=List.mem_iff_getElem?.1 c
 exact zja j (i:=i) (by rw[<-qC];exact hi)
theorem XBa{l id:Nat}(E:P.follows .mixedOrders=true)(L:List Ob)(k:Nat)(c:List Ent)(M:L=List.replicate k .res)(G:ops.toList.all (vv N)=true)(f:YE ops k c=true)(I:XG ops=true)(m:∀T h,¬ Q .outgrown T h)(J:wpQ P ops h.length (Q .normal) c T (h++L)):RWp P N b l (.region id ops true) Q T h:=λφ z w g a r=>by
 have kk:=J3a _ (M▸J)
 simp only[YE,zq,qb,decide_eq_true_eq,List.contains_eq_mem,qW] at f
 obtain⟨⟨⟨⟨⟨Y,D⟩,A⟩,S⟩,O⟩,s⟩:=f
 have j:=Good.drew (g:=g) r.ok r.hB
 have y:=VH j.size k j.ok
 have u:=j.trans y
 have x:fill φ (h++List.replicate k .res)=fill φ h++List.replicate k .res:=jW z
 rw[<-x] at u
 have C:Rel N ⟨b,[]⟩ w.drew g (fill φ (h++List.replicate k .res)) a T:=⟨u.ok,u.size,λi=>AR.le u.le _ _ (r.t i),r.d,r.n⟩
 refine wpIn_region_any E (Wx l 0 ?_ I _ _ _ _ ?_)
 ·rintro ⟨a1,w1,T1,Z,F,_⟩
  exact m _ _ F
 have R:Rest ops (Array.replicate ops.size false) c:=by
  refine⟨by simp,O,λi hi=>?_,Ql c Y,λq m=>⟨k,A q m⟩,λi o v W=>?_⟩
  ·simp[zV,hi]
   have:=S i hi
   simpa using this
  ·have hi:i<ops.size:=by
    rcases Nat.lt_or_ge i ops.size with h|h
    ·exact h
    ·rw[Array.getElem?_eq_none h] at v;cases v
   simp[zV,hi] at W
 refine qEa (K:=Q .normal) z D G ops.size _ c s R (by simp) (λq m o v U=>?_) kk C λH h' w' g' a' k' V X q=>⟨H,h',k',g',λi hi=>?_,X,u.trans q⟩
 ·obtain⟨o',e,_,_,B,_⟩:=ZF (A q m)
  rw[v] at e
  injection e with e
  subst e
  have:=B U
  rw[zX (by omega),Nat.add_sub_cancel_left,List.getElem?_replicate,if_pos this]
 ·have p:=(zd.1 hi).1
  exact V i p (by rw[zO p];exact hi)
abbrev QH:=Exit->List Deferred->Env->List Ob->Prop
def XP(P:Program)(N b:Nat)(ds:List Deferred)(c:Code)(Q:QH)(T:Env)(h:List Ob):Prop:=
 ∀ (φ:Nat->Ob),Upto φ h.length->∀(w:World) (g:Gh) (a:Act),Rel N ⟨b,ds⟩ w g (fill φ h) a T->
   c.wp P (λe i w'=>∃d f h',Q e d f h'/\∃g',ResK h h'/\Rel N ⟨b,d⟩ w' g' (fill φ h') i f/\Good b w g (fill φ h) w' g' (fill φ h')) a w
variable {ds:List Deferred} {X X':QH}
theorem yGa(k:AWp P N ⟨b,ds⟩ c Q T h)(i:∀e T h,Q e T h->X e ds T h):XP P N b ds c X T h:=λφ n w g a r=>
 wp_mono (k φ n w g a r) λe o w' ⟨l,h',m,g',j,d,f⟩=>⟨ds,l,h',i _ _ _ m,g',j,d,f⟩
def jyb(K:List Deferred->Env->List Ob->Prop)(X:QH):QH
 | .normal,ds,T,h=>K ds T h
 | e,ds,T,h=>X e ds T h
theorem zla(k:XP P N b ds c (jyb (λd T h=>XP P N b d c' X T h) X) T h):XP P N b ds (.seq c c') X T h:=λφ m w g a r=>by
 refine wp_seq (wp_mono (k φ m w g a r) λe t w' ⟨d,v,h',l,g',n,j,i⟩=>?_)
 have u:h.length<=h'.length:=ZC i
 cases e<;>first
  | exact wp_mono (l φ (m.mono u) w' g' t j) λ_ _ _ ⟨f,s,x,o,p,q,z3,z4⟩=>⟨f,s,x,o,p,n.trans q,z3,i.trans z4⟩
  | exact⟨d,v,h',l,g',n,j,i⟩
theorem Wy{id:Nat}(k:XP P N b ds c (λe d T h=>e= .normal/\X .normal d T h) T h):XP P N b ds (.block id c) X T h:=λφ m w g a r=>by
 refine wp_block (wp_mono (k φ m w g a r) λe n w' ⟨d,f,h',⟨i,l⟩,j⟩=>?_)
 subst i
 exact⟨d,f,h',l,j⟩
end
