/-
  Joined.
-/
import Derived.Test.YtfmldcilgbbimaaGreatK19
import Derived.Test.YtfmldcilgbbimaaGreatK21
import Derived.Test.YtfmldcilgbbimaaGreatK23
import Derived.Test.YtfmldcilgbbimaaGreatK10
set_option linter.unusedSimpArgs false
set_option linter.unusedVariables false
namespace Go.Proofs.YtfmldcilgbbimaaGreat.Ax
open Go
structure FlF (D:List Ev) (t:TellS):Prop where
 flags:∀x∈t.flags,∃e∈D,e.id=x.id
 opn:∀f os,t.open_=some (f,os)->f∈D
section
variable {D:List Ev} {t:TellS} {s:Setup}
theorem FlF.flag (h:FlF D t) {e:Ev} (b:e∈D) (k:Int):FlF D (js t e k):=⟨λx a=>by
 rcases List.mem_append.1 (show x∈t.flags++[⟨e.id,k⟩] from a) with a | a
 ·exact h.flags x a
 ·rw[List.mem_singleton] at a;subst a;exact ⟨e,b,rfl⟩,h.opn⟩
theorem FlF.close (h:FlF D t) (f:Ev) (os:List Ev) (at_:Int):FlF D (xF s t f os at_):=⟨h.flags,λ_ _ q=>by cases q⟩
theorem FlF.late (h:FlF D t) (m:Int):FlF D (lateP s t m):=by
 unfold lateP
 split
 ·exact h
 ·rename_i e os a
  split
  ·exact (h.flag (h.opn e os a) 1).close e os _
  ·exact h
theorem FlF.next (h:FlF D t) {e:Ev} (b:e∈D):FlF D (xw s t e):=by
 have a:=h.late (s:=s) e.at_
 unfold xw
 split
 ·split
  ·exact ⟨a.flags,λf os q=>by injection q with q;injection q with q _;rw[<-q];exact b⟩
  ·rename_i f os c
   have d:=(a.flag (a.opn f os c) 2).close (s:=s) f os e.at_
   exact ⟨d.flags,λf os q=>by injection q with q;injection q with q _;rw[<-q];exact b⟩
 ·split
  ·exact a.flag b 3
  ·rename_i f os c
   split
   ·exact a.close f os _
   ·exact ⟨a.flags,λi g q=>by injection q with q;injection q with q _;rw[<-q];exact a.opn f os c⟩
theorem FlF.go {w:Int}:∀(l:List Ev) {t:TellS},FlF D t->(∀e∈l,e∈D)->FlF D (l.foldl (vT s w) t)
 | [],t,h,_=>h
 | e::l,t,h,a=>by
   rw[List.foldl_cons]
   refine FlF.go l ?_ λx b=>a x (.tail _ b)
   unfold vT
   split
   ·exact h.next (a e (.head _))
   ·exact h
theorem XQ {l:List Ev} {w:Int}:∀x∈(zM s l w).2,∃e∈l,e.id=x.id:=by
 unfold zM
 split
 ·have h0:FlF l ⟨none,[],[]⟩:=⟨λx a=>(by cases a),λ_ _ q=>(by cases q)⟩
  have c:FlF l (goP s w (zD l)):=FlF.go _ h0 λe b=>QN.1 b
  exact (c.late (s:=s) 32054400).flags
 ·intro x a;cases a
end
end Go.Proofs.YtfmldcilgbbimaaGreat.Ax
namespace Go.Proofs.YtfmldcilgbbimaaGreat.Ax
open Go Go.Proofs
def wka (b c:Int) (e:Ev):List Seg:=if b<c then [⟨b,c,Z8 e.kind,e.id,e.code⟩] else []
theorem YC {t:TellS} {b c:Int} {e:Ev}:(va t b c e).segs=t.segs++wka b c e:=by
 rw[Js];unfold wka;split<;>simp
def qUa (first last:Int):Int->Ev->List Ev->List Seg
 | b,e,[]=>wka b (toP first last last) e
 | b,e,x::os=>wka b (toP first last x.at_) e++qUa first last (toP first last x.at_) x os
theorem YD {first last:Int}:∀(os:List Ev) (b:Int) (e:Ev) (t:TellS),
  (va (os.foldl (kN first last) (b,e,t)).2.2 (os.foldl (kN first last) (b,e,t)).1 (toP first last last) (os.foldl (kN first last) (b,e,t)).2.1).segs=t.segs++qUa first last b e os
 | [],b,e,t=>YC
 | x::os,b,e,t=>by
   rw[List.foldl_cons,show kN first last (b,e,t) x=(toP first last x.at_,x,va t b (toP first last x.at_) e) from rfl,YD os,YC,List.append_assoc]
   rfl
theorem kK {s:Setup} {t:TellS} {f:Ev} {os:List Ev} {c:Int}:(xF s t f os c).segs=t.segs++qUa (qp f.at_ s.unit) (qp c s.unit) (qp f.at_ s.unit) f os:=YD os _ _ _
theorem kTa {first last b c:Int} {e:Ev} (f:first<=b) (d:c<=max first last):∀g∈wka b c e,first<=g.from_/\g.to_<=max first last:=λg a=>by
 unfold wka at a
 split at a
 ·rw[List.mem_singleton] at a
  subst a
  exact ⟨f,d⟩
 ·cases a
theorem qVa {first last:Int}:∀(os:List Ev) (b:Int) (e:Ev),first<=b->∀g∈qUa first last b e os,first<=g.from_/\g.to_<=max first last
 | [],b,e,c,g,a=>kTa c (by unfold toP;omega) g a
 | x::os,b,e,c,g,a=>by
   rcases List.mem_append.1 a with a | a
   ·exact kTa c (by unfold toP;omega) g a
   ·exact qVa os _ _ (by unfold toP;omega) g a
def inG (s:Setup) (n:Int) (g:Seg):Bool:=decide (n - (s.unit+s.cap)<=g.from_) && decide (g.to_<=n+(s.unit+s.cap))
def yN (s:Setup) (n:Int) (l:List Seg):List Seg:=l.filter λg=> !inG s n g
def vu (q:Int->Bool) (l:List Flg):List Flg:=l.filter λf=> !q f.id
theorem wM (s:Setup) (n:Int) (a b:List Seg):yN s n (a++b)=yN s n a++yN s n b:=List.filter_append ..
theorem wN (q:Int->Bool) (a b:List Flg):vu q (a++b)=vu q a++vu q b:=List.filter_append ..
theorem VY {q:Int->Bool} {a:List Flg} {i k:Int} (h:q i=true):vu q (a++[⟨i,k⟩])=vu q a:=by
 rw[wN,show vu q [⟨i,k⟩]=[] by simp[vu,h],List.append_nil]
theorem XR {s:Setup} (e:zw s=true) {t:TellS} {f:Ev} {os:List Ev} {c n:Int} (h0:0<=f.at_/\f.at_<=31449599) (k:n - s.cap<=f.at_) (h:f.at_<=n) (q:f.at_<=c) (j:c<=n+s.cap) (p:c<=f.at_+s.cap):yN s n (xF s t f os c).segs=yN s n t.segs:=by
 obtain ⟨⟨a,b⟩,i,o⟩:=qO e
 have m:=VV a b (t:=f.at_) (by omega) (by omega)
 have l:=VV a b (t:=c) (by omega) (by omega)
 rw[kK,wM]
 have:yN s n (qUa (qp f.at_ s.unit) (qp c s.unit) (qp f.at_ s.unit) f os)=[]:=by
  unfold yN
  rw[List.filter_eq_nil_iff]
  intro g d
  have:=qVa os _ f (Int.le_refl _) g d
  simp only[inG,Bool.not_eq_true,Bool.not_eq_false',Bool.and_eq_true,decide_eq_true_eq]
  omega
 rw[this,List.append_nil]
def InO (s:Setup) (p:Ev->Prop) (n:Int) (t:TellS):Prop:=∀f os,t.open_=some (f,os)->p f/\n - s.cap<=f.at_/\f.at_<=n
structure Nr (s:Setup) (p:Ev->Prop) (n:Int) (q:Int->Bool) (a b:TellS):Prop where
 seg:yN s n a.segs=yN s n b.segs
 flg:vu q a.flags=vu q b.flags
 opn:a.open_=b.open_∨(InO s p n a/\InO s p n b)
def yO (s:Setup) (t:TellS) (e:Ev):TellS:=
 if e.kind=1 then (match t.open_ with
  | none=>⟨some (e,[]),t.segs,t.flags⟩
  | some (f,os)=>⟨some (e,[]),(xF s (js t f 2) f os e.at_).segs,(xF s (js t f 2) f os e.at_).flags⟩)
 else match t.open_ with
  | none=>js t e 3
  | some (f,os)=>if e.kind=2 then xF s t f os e.at_ else ⟨some (f,os++[e]),t.segs,t.flags⟩
theorem Xg (s:Setup) (t:TellS) (e:Ev):xw s t e=yO s (lateP s t e.at_) e:=rfl
section
variable {s:Setup} {p:Ev->Prop} {n:Int} {q:Int->Bool} {a b t:TellS}
theorem zDa {f:Ev} (a:zw s=true) (h0:0<=f.at_/\f.at_<=31449599):wr (f.at_+s.cap)=f.at_+s.cap:=by
 obtain ⟨⟨b,c⟩,d,e⟩:=qO a
 exact zI (by unfold Fit;omega)
theorem kUa (a:zw s=true) (d:∀e,p e->0<=e.at_/\e.at_<=31449599) (g:∀e,p e->n - s.cap<=e.at_->e.at_<=n+s.cap->q e.id=true) (h:InO s p n t) (m:Int):
  yN s n (lateP s t m).segs=yN s n t.segs/\vu q (lateP s t m).flags=vu q t.flags/\InO s p n (lateP s t m):=by
 obtain ⟨⟨i,j⟩,k,l⟩:=qO a
 unfold lateP
 cases c:t.open_ with
 | none=>exact ⟨rfl,rfl,h⟩
 | some z=>
   obtain ⟨f,os⟩:=z
   obtain ⟨k1,k2,k3⟩:=h f os c
   have b:=d f k1
   simp only
   split
   ·rw[zDa a b]
    refine ⟨XR (t:=js t f 1) a b k2 k3 (by omega) (by omega) (by omega),?_,λ_ _ q=>by cases q⟩
    show vu q (t.flags++[⟨f.id,1⟩])=_
    exact VY (g f k1 k2 (by omega))
   ·exact ⟨rfl,rfl,h⟩
theorem Nr.late (j:zw s=true) (g:∀e,p e->0<=e.at_/\e.at_<=31449599) (i:∀e,p e->n - s.cap<=e.at_->e.at_<=n+s.cap->q e.id=true) (h:Nr s p n q a b) (m:Int):Nr s p n q (lateP s a m) (lateP s b m):=by
 rcases h.opn with d | ⟨l,k⟩
 ·cases c:b.open_ with
  | none=>
    have o:lateP s a m=a:=by unfold lateP;rw[d,c]
    have r:lateP s b m=b:=by unfold lateP;rw[c]
    rw[o,r];exact h
  | some z=>
    obtain ⟨f,os⟩:=z
    unfold lateP
    rw[d,c]
    simp only
    split
    ·refine ⟨?_,?_,.inl rfl⟩
     ·rw[kK,kK,wM,wM,show (js a f 1).segs=a.segs from rfl,show (js b f 1).segs=b.segs from rfl,h.seg]
     ·show vu q (a.flags++_)=vu q (b.flags++_)
      rw[wN,wN,h.flg]
    ·exact h
 ·obtain ⟨a1,a2,a3⟩:=kUa (q:=q) j g i l m
  obtain ⟨b1,b2,b3⟩:=kUa (q:=q) j g i k m
  exact ⟨by rw[a1,b1];exact h.seg,by rw[a2,b2];exact h.flg,.inr ⟨a3,b3⟩⟩
theorem zEa (d:zw s=true) (o:∀e,p e->0<=e.at_/\e.at_<=31449599) (k:∀e,p e->n - s.cap<=e.at_->e.at_<=n+s.cap->q e.id=true) (h:InO s p n t) {e:Ev} (l:p e) (v:n<=e.at_) (b:e.at_<=n+s.cap)
  (r:∀f os,t.open_=some (f,os)->e.at_<=f.at_+s.cap):
  yN s n (yO s t e).segs=yN s n t.segs/\vu q (yO s t e).flags=vu q t.flags/\(e.kind=1->(yO s t e).open_=some (e,[]))/\(e.kind≠1->InO s p n (yO s t e)):=by
 obtain ⟨⟨u,x⟩,y,A⟩:=qO d
 have c:=k e l (by omega) b
 unfold yO
 cases i:t.open_ with
 | none=>
   by_cases a:e.kind=1
   ·rw[if_pos a]
    exact ⟨rfl,rfl,λ_=>rfl,λq=>absurd a q⟩
   ·rw[if_neg a]
    exact ⟨rfl,VY c,λq=>absurd q a,λ_=>h⟩
 | some z=>
   obtain ⟨f,os⟩:=z
   obtain ⟨k1,k2,k3⟩:=h f os i
   have g:=o f k1
   have j:=r f os i
   by_cases a:e.kind=1
   ·rw[if_pos a]
    refine ⟨XR (t:=js t f 2) d g k2 k3 (by omega) b j,?_,λ_=>rfl,λq=>absurd a q⟩
    show vu q (t.flags++[⟨f.id,2⟩])=_
    exact VY (k f k1 k2 (by omega))
   ·rw[if_neg a]
    simp only
    split
    ·exact ⟨XR d g k2 k3 (by omega) b j,rfl,λq=>absurd q a,λ_ _ _ q=>by cases q⟩
    ·refine ⟨rfl,rfl,λq=>absurd q a,λ_ w m q=>?_⟩
     injection q with q;injection q with q1 q2;subst q1
     exact ⟨k1,k2,k3⟩
theorem Nr.next (k:zw s=true) (o:∀e,p e->0<=e.at_/\e.at_<=31449599) (v:∀e,p e->n - s.cap<=e.at_->e.at_<=n+s.cap->q e.id=true) (h:Nr s p n q a b) {e:Ev} (l:p e) (u:n<=e.at_)
  (t:∀f os,a.open_=some (f,os)->e.at_<=f.at_+s.cap) (r:∀f os,b.open_=some (f,os)->e.at_<=f.at_+s.cap):Nr s p n q (yO s a e) (yO s b e):=by
 have same:a.open_=b.open_->Nr s p n q (yO s a e) (yO s b e):=λg=>by
  unfold yO
  rw[g]
  cases b.open_ with
  | none=>
    simp only
    split
    ·exact ⟨h.seg,h.flg,.inl rfl⟩
    ·refine ⟨h.seg,?_,.inl g⟩
     show vu q (a.flags++_)=vu q (b.flags++_)
     rw[wN,wN,h.flg]
  | some z=>
    obtain ⟨f,os⟩:=z
    simp only
    split
    ·refine ⟨?_,?_,.inl rfl⟩
     ·rw[kK,kK,wM,wM,show (js a f 2).segs=a.segs from rfl,show (js b f 2).segs=b.segs from rfl,h.seg]
     ·show vu q (a.flags++_)=vu q (b.flags++_)
      rw[wN,wN,h.flg]
    ·split
     ·exact ⟨by rw[kK,kK,wM,wM,h.seg],h.flg,.inl rfl⟩
     ·exact ⟨h.seg,h.flg,.inl rfl⟩
 rcases h.opn with g | ⟨k1,k2⟩
 ·exact same g
 ·by_cases j:a.open_=none/\b.open_=none
  ·exact same (j.1.trans j.2.symm)
  ·have m:e.at_<=n+s.cap:=by
    cases d:a.open_ with
    | some z=>
      obtain ⟨f,os⟩:=z
      have:=t f os d
      have:=(k1 f os d).2.2
      omega
    | none=>cases c:b.open_ with
      | some z=>
        obtain ⟨f,os⟩:=z
        have:=r f os c
        have:=(k2 f os c).2.2
        omega
      | none=>exact absurd ⟨d,c⟩ j
   obtain ⟨C,B,y,x⟩:=zEa (q:=q) k o v k1 l u m t
   obtain ⟨D,w,A,E⟩:=zEa (q:=q) k o v k2 l u m r
   refine ⟨by rw[C,D];exact h.seg,by rw[B,w];exact h.flg,?_⟩
   by_cases i:e.kind=1
   ·exact .inl (by rw[y i,A i])
   ·exact .inr ⟨x i,E i⟩
theorem Qe (d:zw s=true) (b:∀e,p e->0<=e.at_/\e.at_<=31449599) {m:Int} (a:∀f os,t.open_=some (f,os)->p f):∀f os,(lateP s t m).open_=some (f,os)->m<=f.at_+s.cap:=λf os c=>by
 obtain ⟨_,k2,k3⟩:=XP c
 rw[zDa d (b f (a f os k2))] at k3
 exact k3
theorem kVa (a:∀f os,t.open_=some (f,os)->p f) (m:Int):∀f os,(lateP s t m).open_=some (f,os)->p f:=λf os b=>a f os (XP b).2.1
theorem Xh (h:∀f os,t.open_=some (f,os)->p f) {e:Ev} (d:p e):∀f os,(xw s t e).open_=some (f,os)->p f:=λf os a=>by
 have b:=kVa (s:=s) h e.at_
 rw[Xg] at a
 unfold yO at a
 cases c:(lateP s t e.at_).open_ with
 | none=>
   rw[c] at a
   simp only at a
   split at a
   ·injection a with a;injection a with h1 h2;subst h1;exact d
   ·exact b f os a
 | some z=>
   obtain ⟨g,gs⟩:=z
   rw[c] at a
   simp only at a
   split at a
   ·injection a with a;injection a with h1 h2;subst h1;exact d
   ·split at a
    ·cases a
    ·injection a with a;injection a with h1 h2;subst h1;exact b _ _ c
theorem XS (j:zw s=true) (l:∀e,p e->0<=e.at_/\e.at_<=31449599) (i:∀f os,t.open_=some (f,os)->p f) {e:Ev} (n:p e):lateP s (xw s t e) e.at_=xw s t e:=by
 obtain ⟨⟨q,r⟩,u,v⟩:=qO j
 have k:=Qe (m:=e.at_) j l i
 have o:=kVa (s:=s) i e.at_
 have b:∀f os,(xw s t e).open_=some (f,os)->e.at_<=f.at_+s.cap:=λf os a=>by
  rw[Xg] at a
  unfold yO at a
  cases h:(lateP s t e.at_).open_ with
  | none=>
    rw[h] at a
    simp only at a
    split at a
    ·injection a with a;injection a with c h2;subst c;omega
    ·exact k f os a
  | some z=>
    obtain ⟨g,gs⟩:=z
    rw[h] at a
    simp only at a
    split at a
    ·injection a with a;injection a with c h2;subst c;omega
    ·split at a
     ·cases a
     ·injection a with a;injection a with c h2;subst c;exact k _ _ h
 have d:=Xh i n (s:=s)
 rw[lateP.eq_1]
 cases a:(xw s t e).open_ with
 | none=>rfl
 | some z=>
   obtain ⟨f,os⟩:=z
   have c:=b f os a
   simp only
   rw[zDa j (l f (d f os a)),if_neg (by omega)]
theorem YE (d:zw s=true) (c:∀e,p e->0<=e.at_/\e.at_<=31449599) (o:∀e,p e->n - s.cap<=e.at_->e.at_<=n+s.cap->q e.id=true):∀(l:List Ev) (a b:TellS) (m:Int),Nr s p n q (lateP s a m) (lateP s b m)->
  (∀f os,a.open_=some (f,os)->p f)->(∀f os,b.open_=some (f,os)->p f)->n<=m->l.Pairwise (λa b=>a.at_<=b.at_)->(∀e∈l,p e/\m<=e.at_)->m<=32054400->
  Nr s p n q (lateP s (l.foldl (xw s) a) 32054400) (lateP s (l.foldl (xw s) b) 32054400)
 | [],a,b,m,h,k,r,z,_,_,t=>by
   have:=h.late d c o 32054400
   rw[QR t,QR t] at this
   exact this
 | e::l,a,b,m,h,k,r,z,j,y,t=>by
   obtain ⟨k1,k2⟩:=List.pairwise_cons.1 j
   obtain ⟨g,i⟩:=y e (.head _)
   have w:=h.late d c o e.at_
   rw[QR i,QR i] at w
   have u:=w.next d c o g (by omega) (Qe d c k) (Qe d c r)
   rw[<-Xg, <-Xg] at u
   rw[List.foldl_cons,List.foldl_cons]
   refine YE d c o l _ _ e.at_ ?_ (Xh k g) (Xh r g) (by omega) k2 (λx v=>⟨(y x (.tail _ v)).1,k1 x v⟩) (by have:=c e g;omega)
   rw[XS d c k g,XS d c r g]
   exact u
theorem kWa:∀(l:List Ev) (t:TellS),(∀f os,t.open_=some (f,os)->p f)->(∀e∈l,p e)->∀f os,(l.foldl (xw s) t).open_=some (f,os)->p f
 | [],t,h,_=>h
 | e::l,t,h,a=>by
   rw[List.foldl_cons]
   exact kWa l _ (Xh h (a e (.head _))) λx b=>a x (.tail _ b)
end
theorem Jna {s:Setup} (g:zw s=true) {A B:List Ev} {e:Ev} {q:Int->Bool} (l:(A++e::B).Pairwise λa b=>a.at_<=b.at_) (i:∀x∈A++e::B,0<=x.at_/\x.at_<=31449599)
  (w:∀x∈A++e::B,e.at_ - s.cap<=x.at_->x.at_<=e.at_+s.cap->q x.id=true):
  Nr s (λx=>x∈A++e::B) e.at_ q (lateP s ((A++B).foldl (xw s) ⟨none,[],[]⟩) 32054400) (lateP s ((A++e::B).foldl (xw s) ⟨none,[],[]⟩) 32054400):=by
 obtain ⟨⟨H,F⟩,I,G⟩:=qO g
 obtain ⟨k1,k2,k3⟩:=List.pairwise_append.1 l
 obtain ⟨k4,k5⟩:=List.pairwise_cons.1 k2
 have c:e∈A++e::B:=List.mem_append_right _ (.head _)
 rw[List.foldl_append,List.foldl_append,List.foldl_cons]
 obtain ⟨t,o⟩:∃t,t=A.foldl (xw s) ⟨none,[],[]⟩:=⟨_,rfl⟩
 rw[<-o]
 have n:∀f os,t.open_=some (f,os)->f∈A:=by
  rw[o]
  exact kWa (p:=λx=>x∈A) A _ (λ_ _ h=>by cases h) λ_ h=>h
 have k:∀f os,t.open_=some (f,os)->f∈A++e::B:=λf os h=>List.mem_append_left _ (n f os h)
 refine YE g i w B _ _ e.at_ ?_ k (Xh (p:=λx=>x∈A++e::B) k c) (Int.le_refl _) k5 (λx u=>⟨List.mem_append_right _ (.tail _ u),k4 x u⟩) (by have:=i e c;omega)
 rw[XS (p:=λx=>x∈A++e::B) g i k c,Xg]
 have j:InO s (λx=>x∈A++e::B) e.at_ (lateP s t e.at_):=λf os d=>by
  have v:=Qe (p:=λx=>x∈A++e::B) g i k f os d
  have m:=n f os (XP d).2.1
  have E:=k3 f m e (.head _)
  exact ⟨List.mem_append_left _ m,by omega,E⟩
 obtain ⟨D,C,z,y⟩:=zEa (q:=q) g i w j c (Int.le_refl _) (by omega) (Qe (p:=λx=>x∈A++e::B) g i k)
 refine ⟨D.symm,C.symm,.inr ⟨j,?_⟩⟩
 by_cases r:e.kind=1
 ·intro f os d
  rw[z r] at d
  injection d with d;injection d with v m;subst v
  exact ⟨c,by omega,Int.le_refl _⟩
 ·exact y r
def wO (s t:Spn):Spn:=⟨max s.from_ t.from_,min s.to_ t.to_⟩
def wo (a b:List Spn):List Spn:=a.flatMap λs=>b.map (wO s)
def Xj (a b:List Spn):List Spn:=zE (wo (zE a) (zE b))
theorem xSa (a b:List Spn) (s:Spn):wo (a++[s]) b=wo a b++b.map (wO s):=by simp[wo]
theorem YF (a b:List Spn):(wo a b).length=a.length*b.length:=by
 induction a with
 | nil=>simp[wo]
 | cons s a c=>simp only[wo,List.flatMap_cons,List.length_append,List.length_map,List.length_cons,Nat.succ_mul] at *; omega
theorem XV {a b:List Spn} {t:Int}:Cov (wo a b) t↔Cov a t/\Cov b t:=by
 unfold Cov wo
 constructor
 ·rintro ⟨s,e,g,f⟩
  obtain ⟨x,c,e⟩:=List.mem_flatMap.1 e
  obtain ⟨y,d,rfl⟩:=List.mem_map.1 e
  simp only[wO] at g f
  exact ⟨⟨x,c,by omega,by omega⟩,y,d,by omega,by omega⟩
 ·rintro ⟨⟨x,c,g,f⟩,y,d,i,h⟩
  exact ⟨wO x y,List.mem_flatMap.2 ⟨x,c,List.mem_map.2 ⟨y,d,rfl⟩⟩,by simp only[wO];omega,by simp only[wO];omega⟩
theorem V6 {a b:List Spn} {t:Int}:Cov (Xj a b) t↔(0<=t/\t<32054400)/\Cov a t/\Cov b t:=by
 unfold Xj
 rw[qu,XV,qu,qu]
 constructor
 ·rintro ⟨c,d,⟨_,_,f⟩,_,_,e⟩;exact ⟨⟨c,d⟩,f,e⟩
 ·rintro ⟨⟨c,d⟩,f,e⟩;exact ⟨c,d,⟨c,d,f⟩,c,d,e⟩
theorem Qf:∀(c:Spn) (r:List Spn) (s:Spn),s∈xl c r->s.from_=c.from_∨∃x∈r,s.from_=x.from_
 | c,[],s,h=>by
   rw[xl,List.mem_singleton] at h
   subst h;exact .inl rfl
 | c,x::r,s,h=>by
   rw[xl] at h
   split at h
   ·rcases Qf _ r s h with h | ⟨y,a,h⟩
    ·exact .inl h
    ·exact .inr ⟨y,.tail _ a,h⟩
   ·rcases List.mem_cons.1 h with rfl | h
    ·exact .inl rfl
    ·rcases Qf x r s h with h | ⟨y,a,h⟩
     ·exact .inr ⟨x,.head _,h⟩
     ·exact .inr ⟨y,.tail _ a,h⟩
theorem Ju {l:List Spn} {s:Spn} (h:s∈zE l):∃x∈jb l,s.from_=x.from_:=by
 unfold zE at h
 have b:∀x∈Xd (jb l),x∈jb l:=λx a=>(kJ _).mem_iff.1 a
 cases d:Xd (jb l) with
 | nil=>rw[d] at h;cases h
 | cons c r=>
   rw[d] at h b
   rcases Qf c r s h with h | ⟨x,a,h⟩
   ·exact ⟨c,b c (.head _),h⟩
   ·exact ⟨x,b x (.tail _ a),h⟩
theorem QS:∀ {a b:List Int},a.Nodup->(∀x∈a,x∈b)->a.length<=b.length
 | [],_,_,_=>by simp
 | x::a,b,c,g=>by
   rw[List.nodup_cons] at c
   have f:=g x (.head _)
   have:=QS (a:=a) (b:=b.erase x) c.2 λy d=>(List.mem_erase_of_ne (λe=>c.1 (by rw[<-e];exact d))).2 (g y (.tail _ d))
   rw[List.length_erase_of_mem f] at this
   have:0<b.length:=List.length_pos_of_mem f
   rw[List.length_cons];omega
theorem PlainS.froms {l:List Spn} (h:PlainS l):(l.map (·.from_)).Nodup:=by
 induction l with
 | nil=>simp
 | cons s l c=>
   rw[List.map_cons,List.nodup_cons]
   refine ⟨λb=>?_,c h.tail⟩
   obtain ⟨x,a,e⟩:=List.mem_map.1 b
   have f:=(List.pairwise_cons.1 h.gap).1 x a
   have d:=h.pos s (.head _)
   omega
theorem V7 (a b:List Spn):(Xj a b).length<=(zE a).length+(zE b).length:=by
 have j:=(xU (wo (zE a) (zE b))).froms
 have d:((Xj a b).map (·.from_)).length<=((zE a).map (·.from_)++(zE b).map (·.from_)).length:=by
  refine QS j λx i=>?_
  obtain ⟨s,d,rfl⟩:=List.mem_map.1 i
  obtain ⟨y,f,e⟩:=Ju d
  unfold jb at f
  obtain ⟨z,c,rfl⟩:=List.mem_map.1 (List.mem_filter.1 f).1
  obtain ⟨p,g,c⟩:=List.mem_flatMap.1 c
  obtain ⟨q,h,rfl⟩:=List.mem_map.1 c
  have m:=(jZ p g).1
  have l:=(jZ q h).1
  rw[List.mem_append]
  rw[e]
  simp only[jI,wO]
  by_cases k:p.from_<=q.from_
  ·exact .inr (List.mem_map.2 ⟨q,h,by omega⟩)
  ·exact .inl (List.mem_map.2 ⟨p,g,by omega⟩)
 simpa using d
def qf:Int->List Spn->List Spn
 | k,[]=>if k<32054400 then [⟨k,32054400⟩] else []
 | k,s::r=>(if s.from_>k then [⟨k,s.from_⟩] else [])++qf s.to_ r
def qx (a b:List Spn):List Spn:=Xj a (qf 0 (zE b))
theorem V8:∀ {l:List Spn} {k t:Int},PlainS l->(∀s∈l,k<=s.from_)->(∀s∈l,s.to_<=32054400)->(Cov (qf k l) t↔(k<=t/\t<32054400)/\¬ Cov l t)
 | [],k,t,_,_,_=>by
   unfold qf
   split
   ·simp[Cov]
   ·simp[Cov];omega
 | s::r,k,t,b,f,e=>by
   have n:=f s (.head _)
   have j:=b.pos s (.head _)
   have o:=e s (.head _)
   have g:=V8 (l:=r) (k:=s.to_) (t:=t) b.tail (λx c=>by have:=(List.pairwise_cons.1 b.gap).1 x c;omega) (λx c=>e x (.tail _ c))
   have d:Cov r t->s.to_<t:=b.above
   rw[qf,zBa,g,qI]
   split
   ·simp only[Cov,List.mem_singleton,exists_eq_left]
    constructor
    ·rintro (h | ⟨h,a⟩)
     ·refine ⟨by omega,?_⟩
      rintro (q | q)
      ·omega
      ·have:=d q;omega
     ·exact ⟨by omega,λq=>by rcases q with q | q;omega;exact a q⟩
    ·rintro ⟨h,a⟩
     by_cases m:t<s.from_
     ·exact .inl (by omega)
     ·refine .inr ⟨⟨?_,h.2⟩,λq=>a (.inr q)⟩
      apply Classical.byContradiction
      intro i
      exact a (.inl (by omega))
   ·simp only[Cov,List.not_mem_nil,false_and,exists_false,false_or]
    constructor
    ·rintro ⟨h,a⟩
     exact ⟨by omega,λq=>by rcases q with q | q;omega;exact a q⟩
    ·rintro ⟨h,a⟩
     refine ⟨⟨?_,h.2⟩,λq=>a (.inr q)⟩
     apply Classical.byContradiction
     intro i
     exact a (.inl (by omega))
theorem Jv:∀(l:List Spn) (k:Int),(qf k l).length<=l.length+1
 | [],k=>by unfold qf;split<;>simp
 | s::r,k=>by
   have:=Jv r s.to_
   rw[qf,List.length_append,List.length_cons]
   split<;>simp<;>omega
theorem Zq {a b:List Spn} {t:Int}:Cov (qx a b) t↔(0<=t/\t<32054400)/\Cov a t/\¬ Cov b t:=by
 unfold qx
 rw[V6,V8 (xU b) (λs e=>(jZ s e).1) (λs e=>(jZ s e).2.2),qu]
 constructor
 ·rintro ⟨c,d,_,f⟩;exact ⟨c,d,λq=>f ⟨c.1,c.2,q⟩⟩
 ·rintro ⟨c,d,f⟩;exact ⟨c,d,c,λq=>f q.2.2⟩
theorem jd (a b:List Spn):(qx a b).length<=(zE a).length+(zE b).length+1:=by
 have c:=V7 a (qf 0 (zE b))
 have d:=zy (qf 0 (zE b))
 have e:=Jv (zE b) 0
 unfold qx
 omega
def Qg (s:Spn) (n:Int):Spn:=⟨s.from_,min s.to_ (s.from_+min n 32054400)⟩
def Jw:List Spn->Int->List Spn
 | [],_=>[]
 | s::r,n=>if n<=0 then [] else Qg s n::Jw r (n - ((Qg s n).to_ - s.from_))
theorem jt:∀(l:List Spn) (n:Int),(Jw l n).length<=l.length
 | [],_=>Nat.le_refl _
 | s::r,n=>by
   rw[Jw]
   split
   ·simp
   ·have:=jt r (n - ((Qg s n).to_ - s.from_))
    simp only[List.length_cons];omega
def zP (l:List Spn) (n:Int):List Spn:=Jw (zE l) n
def Qh (l:List Spn) (n:Int):List Spn:=if n<=0 then [] else qx l (zP l (qZ (zE l) - min n 32054400))
end Go.Proofs.YtfmldcilgbbimaaGreat.Ax
namespace Go.Proofs.YtfmldcilgbbimaaGreat.Ax
open Go Go.RowKit
theorem xTa {o:Option Ob} {st:Nat} {rows:List (List AV)} (a:Ys o st=some rows):∃ty e,o=some (.row ty e rows st):=by
 unfold Ys at a
 split at a
 ·split at a
  ·rename_i b
   injection a with a
   subst b a
   exact ⟨_,_,rfl⟩
  ·cases a
 ·cases a
def qZa:AV->Option Nat
 | .tl id _=>some id
 | .vw a _ _ _=>qZa a
 | _=>none
theorem kZa {n:Nat} {L:List Ob}:∀(r:AV) {rows:List (List AV)},zq (List.replicate n .gone++L) r=some rows->∀id,qZa r=some id->n<=id
 | .tl id st,rows,h,i,b=>by
   injection b with b
   subst b
   apply Classical.byContradiction
   intro d
   have:(List.replicate n Ob.gone++L)[id]? =some .gone:=by
    rw[List.getElem?_append_left (by rw[List.length_replicate];omega),List.getElem?_replicate,if_pos (by omega)]
   rw[zX,this] at h
   cases h
 | .vw a e i k,rows,h,id,b=>by
   rw[xy] at h
   cases c:zq (List.replicate n .gone++L) a with
   | none=>rw[c] at h;cases h
   | some ys=>exact kZa a c id b
 | .v _,_,_,_,b | .sl _ _,_,_,_,b | .em,_,_,_,b | .ptr _ _,_,_,_,b | .ep _ _ _ _,_,_,_,b | .mp _,_,_,_,b | .ag _,_,_,_,b | .tup _,_,_,_,b | .fn _ _ _,_,_,_,b | .bad,_,_,_,b=>by cases b
section
variable {B:Nat} {w:World} {g:Gh} {h L:List Ob}
theorem Zna {b:Nat} (k:kept g h b):kept g (h++L) b:=by
 obtain ⟨i,o,a,c⟩:=k
 exact ⟨i,o,zb a,c⟩
theorem V9 (N:HOk B w g (h++L)):∀(r:AV) {A:Addr} {n k:Nat} {rows:List (List AV)} {e:Nat},AR (ctx w g (h++L)) r (.slice (some A) n k)->zq (h++L) r=some rows->eOf (h++L) r=some e->0<e->rows≠[]->(∀id,qZa r=some id->h.length<=id)->¬ kept g h A.block
 | .sl t xs,A,n,k,rows,e,l,b,f,h0,j,d=>by
   obtain ⟨A',k',y,R,I⟩:=l
   injection y with y o M
   subst y
   injection b with b
   subst b
   injection f with f
   subst f
   cases xs with
   | nil=>exact absurd rfl j
   | cons x xs=>
     obtain ⟨⟨U,E⟩,_⟩:=I
     cases x with
     | nil=>simp at U;omega
     | cons c x=>
       obtain ⟨⟨J,u,z,V,_⟩,_⟩:=E
       injection z with z
       subst z
       intro Q
       refine V.1 ?_
       have:(A.add (0*t)).block=A.block:=by unfold Addr.add;split<;>rfl
       rw[this]
       exact Zna Q
 | .tl id st,A,n,k,rows,e,l,b,f,h0,j,d=>by
   rw[zX] at b
   obtain ⟨ty,t,G⟩:=xTa b
   have E:=ZU l G
   rintro ⟨i,p,K,W⟩
   have P:=xO K
   have hid:=d id rfl
   refine N.apart i id p _ A.block (by omega) (zb K) G W ?_
   show (g.cur id).ownBlock=_
   rw[<-E];rfl
 | .vw a t i m,A,n,k,rows,e,l,b,f,h0,j,d=>by
   obtain ⟨A0,m0,cp,A',k',y,R,I,o,M,_⟩:=l
   rw[xy] at b
   rw[Ze] at f
   cases C:zq (h++L) a with
   | none=>rw[C] at b;cases b
   | some ys=>
     rw[C] at b
     simp only[Option.bind_some] at b
     split at b
     ·rename_i D
      injection b with b
      cases s:eOf (h++L) a with
      | none=>rw[s] at f;cases f
      | some S=>
        have H:0<m:=by
         apply Classical.byContradiction
         intro H
         have:m=0:=by omega
         subst this
         rw[List.take_zero] at b
         exact j b.symm
        have F:ys≠[]:=by
         intro Z
         subst Z
         simp at D
         omega
        have X:S=t/\t=e:=by
         rw[s] at f
         simp only[Option.bind_some] at f
         split at f
         ·rename_i q;injection f with f;exact ⟨q,f⟩
         ·cases f
        injection o with o h6 h7
        subst h6
        obtain ⟨J,O,T⟩:=M H
        subst O
        have Y:=V9 N a y C s (by omega) F d
        rw[T] at o
        injection o with o
        have:A.block=J.block:=by rw[o];unfold Addr.add;split<;>rfl
        rw[this]
        exact Y
     ·cases b
 | .v x,A,n,k,rows,e,l,b,f,h0,j,d=>by
   have l:Value.slice (some A) n k=x:=l
   subst l
   cases b
 | .em,_,_,_,_,_,_,b,_,_,j,_=>by injection b with b;exact absurd b.symm j
 | .ptr _ _,_,_,_,_,_,_,b,_,_,_,_ | .ep _ _ _ _,_,_,_,_,_,_,b,_,_,_,_ | .mp _,_,_,_,_,_,_,b,_,_,_,_ | .ag _,_,_,_,_,_,_,b,_,_,_,_ | .tup _,_,_,_,_,_,_,b,_,_,_,_ | .fn _ _ _,_,_,_,_,_,_,b,_,_,_,_ | .bad,_,_,_,_,_,_,b,_,_,_,_=>by cases b
theorem Qi (K:HOk B w g (h++L)) {r:AV} {u:Value} {rows:List (List AV)} {e:Nat} (v:0<e) (G:AR (ctx w g (h++L)) r u) (t:SlOf (h++L) r e rows) (l:∀id,qZa r=some id->h.length<=id) (Q:zU h.length rows=true):AR (ctx w g h) (.sl e rows) u:=by
 obtain ⟨A,k,C,I,N,R⟩:=kD K r G t.rows
 by_cases s:rows=[]
 ·subst s
  exact ⟨A,k,C,I,True.intro⟩
 have o:=t.ee s
 have q:=N e o
 refine ⟨A,k,C,I,?_⟩
 have M:∃a0,A=some a0:=by
  cases rows with
  | nil=>exact absurd rfl s
  | cons x xs=>
    have b:=q.len x (by simp)
    cases x with
    | nil=>simp at b;omega
    | cons c x=>
      obtain ⟨H,F,m,_⟩:=q.cell 0 0 (c::x) c rfl rfl
      exact ⟨H,m⟩
 obtain ⟨a0,rfl⟩:=M
 subst C
 have D:=V9 K r G t.rows o v s l
 have f:=xx w g h L
 have cells:∀(i:Nat) (x:List AV),rows[i]? =some x->zG h.length x=true->∀(y:List AV) (k0:Nat),(∀j a,y[j]? =some a->x[k0+j]? =some a)->zG h.length y=true->ACells (ctx w g h) (some a0) (i*e+k0) y:=by
  intro i x n _ y
  induction y with
  | nil=>intro _ _ _;trivial
  | cons c y E=>
    intro k0 p b
    have b:c.lt h.length=true/\zG h.length y=true:=by simpa [zG] using b
    have J:=p 0 c rfl
    rw[Nat.add_zero] at J
    obtain ⟨H,F,m,O,P⟩:=q.cell i k0 x c n J
    injection m with m
    subst m
    refine ⟨⟨a0,F,rfl,⟨?_,O⟩,AR.less f c F b.1 P⟩,?_⟩
    ·have:(a0.add (i*e+k0)).block=a0.block:=by unfold Addr.add;split<;>rfl
     rw[this]
     exact D
    ·have:=E (k0+1) (λj a d=>by
      have:=p (j+1) a d
      rw[show k0+(j+1)=k0+1+j by omega] at this
      exact this) b.2
     rw[show i*e+k0+1=i*e+(k0+1) by omega]
     exact this
 have all:∀(ys:List (List AV)) (i:Nat),(∀j x,ys[j]? =some x->rows[i+j]? =some x)->zU h.length ys=true->ARows (ctx w g h) (some a0) e i ys:=by
  intro ys
  induction ys with
  | nil=>intro _ _ _;trivial
  | cons x ys E=>
    intro i p b
    have b:zG h.length x=true/\zU h.length ys=true:=by simpa [zU] using b
    have n:=p 0 x rfl
    rw[Nat.add_zero] at n
    refine ⟨⟨q.len x (List.mem_of_getElem? n),?_⟩,E (i+1) (λj z d=>by
     have:=p (j+1) z d
     rw[show i+(j+1)=i+1+j by omega] at this
     exact this) b.2⟩
    have:=cells i x n b.1 x 0 (λj a d=>by rw[Nat.zero_add];exact d) b.1
    simpa using this
 exact all rows 0 (λj x d=>by rw[Nat.zero_add];exact d) Q
end
theorem New.root {h L:List Ob} {e:Nat} {x:AV} {rows:List (List AV)} (k:New h e x rows L):∀id,qZa x=some id->h.length<=id:=
 kZa (L:=L) x (k (List.replicate h.length .gone) (by simp)).rows
variable {P:Program} {f:FuncId} {ar:List AV} {h:List Ob}
theorem qK {e:Nat} {rows:List (List AV)} (m:0<e) (p:zU h.length rows=true) (c:ACalls P f ar h λr h'=>∃L,h'=h++L/\NoRes L/\New h e r rows L):ACalls P f ar h λr h'=>r= .sl e rows/\h'=h:=by
 refine ⟨c.1,⟨_,_,⟨rfl,rfl⟩,.refl⟩,λφ l B w g vs k hB b=>?_⟩
 refine (c.2.2 φ l B w g vs k hB b).mono λq w' ⟨v,r,h',g',o,⟨L,n,_,j⟩,_,d,i⟩=>?_
 subst n
 rw[qR l] at d i
 have a:(fill φ h).length=h.length:=qm
 refine ⟨v,_,h,g',o,⟨rfl,rfl⟩,.refl,d.drop rfl (by have:=k.ids;exact this),?_⟩
 refine Qi d.ok m i (j _ a) (λid hid=>by rw[a];exact j.root id hid) (by rw[a];exact p)
theorem q0a {e d:Nat} {rows b:List (List AV)} (t:0<e) (F:0<d) (C:zU h.length rows=true) (k:zU h.length b=true) (c:ACalls P f ar h λr h'=>∃L y z,h'=h++L/\NoRes L/\r= .tup [y,z]/\New h e y rows L/\New h d z b L):ACalls P f ar h λr h'=>r= .tup [.sl e rows,.sl d b]/\h'=h:=by
 refine ⟨c.1,⟨_,_,⟨rfl,rfl⟩,.refl⟩,λφ n B w g vs o hB i=>?_⟩
 refine (c.2.2 φ n B w g vs o hB i).mono λG w' ⟨v,r,h',g',x,⟨L,y,z,A,_,q,n1,n2⟩,_,j,m⟩=>?_
 subst A q
 rw[qR n] at j m
 have a:(fill φ h).length=h.length:=qm
 obtain ⟨us,rfl,E,H,p,a1,s,D,u,a2,l⟩:=m
 have l:D=[]:=l
 subst l u
 refine ⟨_,_,h,g',x,⟨rfl,rfl⟩,.refl,j.drop rfl (by have:=o.ids;exact this),us,rfl,?_⟩
 rw[p]
 exact ⟨E,_,rfl,Qi j.ok t a1 (n1 _ a) (λid hid=>by rw[a];exact n1.root id hid) (by rw[a];exact C),s,_,rfl,Qi j.ok F a2 (n2 _ a) (λid hid=>by rw[a];exact n2.root id hid) (by rw[a];exact k),rfl⟩
def WeakV (r a:AV):Prop:=∀(c:Ctx) (v:Value),AR c r v->AR c a v
theorem WeakV.refl (r:AV):WeakV r r:=λ_ _ h=>h
theorem WeakV.nil (e:Nat):WeakV (.v (.slice none 0 0)) (.sl e []):=λ_ v h=>by
 have h:v= .slice none 0 0:=h
 subst h
 exact ⟨none,0,rfl,Nat.le_refl _,True.intro⟩
theorem WeakV.two {a d b f:AV} (h:WeakV a d) (g:WeakV b f):WeakV (.tup [a,b]) (.tup [d,f]):=λc v ⟨vs,e,x,r,k,a1,y,j,l,a2,i⟩=>⟨vs,e,x,r,k,h c x a1,y,j,l,g c y a2,i⟩
theorem yr {R i:AV->List Ob->Prop} (c:ACalls P f ar h R) (e:∀r h',R r h'->∃b,i b h'/\WeakV r b):ACalls P f ar h i:=by
 refine ⟨c.1,?_,λφ t B w g vs p hB a=>?_⟩
 ·obtain ⟨r,h',k,n⟩:=c.2.1
  obtain ⟨b,d,_⟩:=e r h' k
  exact ⟨b,h',d,n⟩
 ·refine (c.2.2 φ t B w g vs p hB a).mono λu w' ⟨v,r,h',g',q,s,o,j,l⟩=>?_
  obtain ⟨b,d,m⟩:=e r h' s
  exact ⟨v,b,h',g',q,d,o,j,m _ _ l⟩
theorem Jx {e:Nat} {rows:List (List AV)} (c:ACalls P f ar h λr h'=>(r= .sl e rows∨r= .v (.slice none 0 0)/\rows=[])/\h'=h):ACalls P f ar h λr h'=>r= .sl e rows/\h'=h:=
 yr c λr h' ⟨q,a⟩=>by
  rcases q with rfl | ⟨rfl,rfl⟩
  ·exact ⟨_,⟨rfl,a⟩,.refl _⟩
  ·exact ⟨_,⟨rfl,a⟩,.nil e⟩
theorem Xk {rs:List ResultVar} {T:Env} {h0 h':List Ob} {ty e:Nat} {x:AV} {rows:List (List AV)} (d:KR P T h' rs=some x) (b:Pre h0 h') (c:OwnS h0 h' ty e x rows):vGa P rs h0 (λr h''=>∃L,h''=h0++L/\NoRes L/\New h0 e r rows L) .ret T h':=by
 obtain ⟨L,rfl,a⟩:=b
 exact ⟨x,d,.inl ⟨L,rfl,a,c.new (Nat.le_refl _)⟩⟩
end Go.Proofs.YtfmldcilgbbimaaGreat.Ax
namespace Go.Proofs.YtfmldcilgbbimaaGreat.Ax
open Go Go.Proofs
set_option maxRecDepth 100000
def spv (l:List Spn):AV:= .sl 2 (l.map zH)
theorem qP {h:List Ob} (l:List Spn):SlOf h (spv l) 2 (l.map zH):=⟨rfl,λ_=>rfl⟩
theorem Zoa {h:List Ob} (l:List Spn):zq h (spv l)=some (l.map zH):=rfl
theorem Wsa {h:List Ob} (l:List Spn):eOf h (spv l)=some 2:=rfl
theorem Jpa (l:List Spn):AV.one (spv l)=true:=rfl
theorem wna (l:List Spn):AV.cells (spv l)=some [spv l]:=rfl
theorem Zr {n:Nat}:∀l:List Spn,zU n (l.map zH)=true
 | []=>rfl
 | s::l=>by
   rw[List.map_cons,zU,Zr l];rfl
theorem Qj {n:Nat} (l:List Spn):(spv l).lt n=true:=Zr l
attribute [go_sem] Zoa Wsa Jpa wna
theorem Qk (h:List Ob) (x:AV) (l:List Spn) (b:SlOf h x 2 (l.map zH)) (a:l.length<1099511627776):
  ACalls Tryz.prog 65 [x] h λr h'=>r=spv (zE l)/\h'=h:=qK (by decide) (Zr _) (c65 h x l b a)
theorem Zs {l:List Spn} {i:Nat} (h:i<l.length):(l.map zH)[i]? =some (zH l[i]):=by rw[List.getElem?_map,List.getElem?_eq_getElem h];rfl
theorem Zpa {h:List Ob} {i id ty d e st:Nat} {cs:List AV} {rows:List (List AV)} (b:h[i]? =some (.box ty cs)) (c:h[id]? =some (.row d e rows st)) (M:List Ob) (o:Ob):((h++M).set id o)[i]? =some (.box ty cs):=by
 have a:id≠i:=λq=>by rw[q,b] at c;cases c
 rw[List.getElem?_set_ne a]
 exact zb b
theorem Kya (h:List Ob) (x y:AV) (a b:List Spn) (hx:SlOf h x 2 (a.map zH)) (hy:SlOf h y 2 (b.map zH)) (ha:a.length<1048576) (hb:b.length<1048576):
  ACalls Tryz.prog 174 [x,y] h λr h'=>r=spv (Xj a b)/\h'=h:=by
 refine zf Tryz.f174 [.tmp 4] 42 rfl rfl rfl rfl rfl rfl (by decide) (⟨_,_,⟨rfl,rfl⟩,.refl⟩) λB=>?_
 simp only[go_sem]
 refine zc (Qk _ x a hx (by omega)) ?_
 rintro _ I ⟨rfl,rfl⟩
 obtain ⟨u,V⟩:∃u,u=zE a:=⟨_,rfl⟩
 obtain ⟨v,Z⟩:∃v,v=zE b:=⟨_,rfl⟩
 have ο:u.length<1048576:=by have:=zy a;rw[V];omega
 have μ:v.length<1048576:=by have:=zy b;rw[Z];omega
 rw[<-V]
 have hand:Xj a b=zE (wo u v):=by rw[V,Z];rfl
 rw[hand]
 simp only[go_sem,List.length_map]
 refine zj (by decide) (λm T h'=>∃i:Nat,i<=u.length/\Pre I h'/\OwnS I h' 134 2 (T 5) ((wo (u.take i) v).map zH)/\T 1=y/\T 11=spv u/\T 12=i64 u.length/\T 13=i64 i/\m=u.length - i) u.length
  ⟨0,by omega,Pre.refl,.inl ⟨by simp only[go_sem],rfl⟩,by simp only[go_sem],by simp only[go_sem],by (simp only[go_sem]<;>rfl),by (simp only[go_sem]<;>rfl),rfl⟩ ?_
 rintro m T h' ⟨i,hi,n,o,t1,g,f,c,rfl⟩
 simp only[go_sem,f,c]
 refine ways (λe=>?_) (λe=>?_)
 ·have O:=dlt e
  have C:=Zs O
  have α:(i:Int)<u.length:=by omega
  have s:=xSa (u.take i) v u[i]
  rw[List.take_append_getElem O] at s
  have A:(wo (u.take i) v).length<=1048576*1048576:=by
   rw[YF,List.length_take]
   exact Nat.mul_le_mul (by omega) (by omega)
  obtain ⟨z,hz⟩:∃z,z=u[i]:=⟨_,rfl⟩
  rw[<-hz] at C s
  obtain ⟨H,Y⟩:∃H,H=wo (u.take i) v:=⟨_,rfl⟩
  rw[<-Y] at o s A
  simp only[go_sem,t1,g,c,C,α,List.length_map,Int.toNat_natCast,Int.natCast_nonneg]
  refine zc (Qk _ y b ((n.app (zi rfl)).sl hy) (by omega)) ?_
  rintro _ h6 ⟨rfl,rfl⟩
  rw[<-Z]
  simp only[go_sem,List.length_map]
  obtain ⟨G,p⟩:∃G,G=h'++[Ob.box 134 (zH z)]:=⟨_,rfl⟩
  rw[show h'++[Ob.box 134 [i64 z.from_,i64 z.to_]]=G from p.symm]
  have N:G[h'.length]? =some (.box 134 (zH z)):=by rw[p];exact zo rfl
  have η:=n.len
  have Q:Pre I G:=by rw[p];exact n.app (zi rfl)
  have P:OwnS I G 134 2 (T 5) (H.map zH):=by rw[p];exact o.app _
  refine zj (by decide) (λm l J=>∃j:Nat,j<=v.length/\Pre I J/\OwnS I J 134 2 (l 5) ((H++(v.take j).map (wO z)).map zH)/\J[h'.length]? =some (.box 134 (zH z))/\l 1=y/\l 7= .ptr h'.length 0/\l 11=spv u/\l 12=i64 u.length/\l 13=i64 i/\l 18=spv v/\l 19=i64 v.length/\l 20=i64 j/\m=v.length - j) v.length
   ⟨0,by omega,Q,by (simp only[go_sem];simpa using P),N,by simp only[go_sem,t1],by simp only[go_sem],by simp only[go_sem,g],by simp only[go_sem,f],by simp only[go_sem,c],by simp only[go_sem],by (simp only[go_sem]<;>rfl),by (simp only[go_sem]<;>rfl),rfl⟩ ?_
  clear n o Q P t1 g f c N
  rintro m l J ⟨j,hj,n,o,R,t1,t7,g,f,c,U,F,E,rfl⟩
  simp only[go_sem,F,E]
  refine ways (λe=>?_) (λe=>?_)
  ·have t:=dlt e
   have d:=Zs t
   have w:(j:Int)<v.length:=by omega
   have k:(v.take (j+1)).map (wO z)=(v.take j).map (wO z)++[wO z v[j]]:=by rw[<-List.take_append_getElem t,List.map_append];rfl
   obtain ⟨q,hq⟩:∃q,q=v[j]:=⟨_,rfl⟩
   rw[<-hq] at d k
   have hA:List.length (zH (wO z q))=2:=rfl
   have K:∀M,(J++M)[h'.length]? =some (.box 134 (zH z)):=λM=>zb R
   have D:(H.length+min j v.length+1)*17<=140737488355328:=by omega
   rcases o with ⟨t5,S⟩ | ⟨id,st,u1,t5,u3⟩
   ·simp only[go_sem,t5,t7,U,E,K,d,w,List.length_map,Int.toNat_natCast,Int.natCast_nonneg,Zk,Zj]
    refine ⟨v.length - (j+1),by omega,j+1,by omega,n.app (zg rfl (zg rfl (zi rfl))),.inr ⟨_,_,by have:=n.len;omega,rfl,?_⟩,t1,g,f,c,F,zx (by omega) rfl,rfl⟩
    rw[k, <-List.append_assoc,List.map_append,S,zm rfl]
    rfl
   ·have hg:∀M,(J++M)[id]? =some (.row 134 2 ((H++(v.take j).map (wO z)).map zH) st):=λM=>zb u3
    simp only[go_sem,t5,t7,U,E,K,hg,D,d,w,List.length_map,List.length_take,Int.toNat_natCast,Int.natCast_nonneg,Zk,Zj]
    refine ⟨v.length - (j+1),by omega,j+1,by omega,(n.app (zg rfl (zi rfl))).set u1 rfl,.inr ⟨id,st+1,u1,rfl,?_⟩,Zpa R u3 _ _,t1,g,f,c,F,zx (by omega) rfl,rfl⟩
    rw[k, <-List.append_assoc,List.map_append (l₂:=[wO z q])]
    exact zh (hg _)
  ·have β:=qU e
   have W:j=v.length:=by omega
   subst W
   rw[List.take_length, <-s] at o
   simp only[go_sem,c]
   exact ⟨u.length - (i+1),by omega,i+1,by omega,n,o,t1,g,f,zx (by omega) rfl,rfl⟩
 ·have β:=qU e
  have X:i=u.length:=by omega
  subst X
  rw[List.take_length] at o
  have A:(wo u v).length<=1048575*1048575:=by
   rw[YF]
   exact Nat.mul_le_mul (by omega) (by omega)
  simp only[go_sem]
  refine zc (Qk _ _ (wo u v) o.rows (by omega)) ?_
  rintro _ h6 ⟨rfl,rfl⟩
  simp only[go_sem]
  obtain ⟨L,rfl,_⟩:=n
  exact ze (by simp only[go_sem]) (Qj _)
set_option maxRecDepth 100000
theorem k0a (h:List Ob) (x:AV) (l:List Spn) (b:SlOf h x 2 (l.map zH)) (a:l.length<1048576):
  ACalls Tryz.prog 23 [x] h λr h'=>r=i64 (qZ (zE l))/\h'=h:=c30 h x l b a
def j9 (l:List Spn) (n size:Int):List Spn:=if n<0∨n>32054400 / size then [] else Xj l [⟨n*size,(n+1)*size⟩]
theorem Kza (h:List Ob) (x:AV) (l:List Spn) (n size:Int) (j:SlOf h x 2 (l.map zH)) (m:l.length<1048576) (g:size=86400∨size=604800):
  ACalls Tryz.prog 171 [x,i64 n,i64 size] h λr h'=>(r=spv (j9 l n size)∨r= .v (.slice none 0 0)/\j9 l n size=[])/\h'=h:=by
 have e:IntKind.wrap .i64 (Int.tdiv 32054400 size)=32054400 / size:=by rcases g with rfl | rfl<;>rfl
 have h0:¬ size=0:=by omega
 have i:32054400 / size<=371:=by rcases g with rfl | rfl<;>decide
 have hex:∃r h',((r=spv (j9 l n size)∨r=AV.v (.slice none 0 0)/\j9 l n size=[])/\h'=h)/\ResK h h':=⟨_,_,⟨.inl rfl,rfl⟩,.refl⟩
 refine zf Tryz.f171 [.tmp 6] 26 rfl rfl rfl rfl rfl rfl (by decide) (hex) λB=>?_
 simp only[go_sem]
 cases a:decide (n<0)
 ·have d:¬ n<0:=of_decide_eq_false a
  cases c:decide (n>32054400 / size)
  ·have f:¬ n>32054400 / size:=of_decide_eq_false c
   have b:j9 l n size=Xj l [⟨n*size,(n+1)*size⟩]:=by unfold j9;rw[if_neg (by omega)]
   have q:n*size<=371*604800/\0<=n*size/\(n+1)*size<=372*604800/\0<=(n+1)*size:=by
    rcases g with rfl | rfl<;>omega
   have k:IntKind.wrap .i64 (n*size)=n*size:=zI (n:=n*size) (by unfold Fit;omega)
   have p:IntKind.wrap .i64 (n+1)=n+1:=zI (n:=n+1) (by unfold Fit;omega)
   have o:IntKind.wrap .i64 ((n+1)*size)=(n+1)*size:=zI (n:=(n+1)*size) (by unfold Fit;omega)
   simp only[go_sem,a,c,e,h0,zJ,k,p,o]
   refine zc (Kya _ x _ l [⟨n*size,(n+1)*size⟩] (j.app _) (OwnS.rows (h0:=h) (ty:=134) (.inr ⟨_,_,Nat.le_refl _,rfl,by rw[zo rfl];rfl⟩)) m (by simp)) ?_
   rintro _ s ⟨rfl,rfl⟩
   simp only[go_sem]
   exact ⟨spv (j9 l n size),by (simp only[go_sem];rw[b]),.inr ⟨h,_,rfl,rfl,Qj _,.refl,.inl rfl,rfl⟩⟩
  ·have f:=of_decide_eq_true c
   have b:j9 l n size=[]:=by unfold j9;rw[if_pos (by omega)]
   simp only[go_sem,a,c,e,h0,zJ]
   exact ⟨_,by simp only[go_sem],.inl ⟨.inr ⟨rfl,b⟩,rfl⟩⟩
 ·have d:=of_decide_eq_true a
  have b:j9 l n size=[]:=by unfold j9;rw[if_pos (by omega)]
  simp only[go_sem,a,e,h0,zJ]
  exact ⟨_,by simp only[go_sem],.inl ⟨.inr ⟨rfl,b⟩,rfl⟩⟩
theorem XSa (h:List Ob) (x:AV) (l:List Spn) (n size:Int) (b:SlOf h x 2 (l.map zH)) (a:l.length<1048576) (c:size=86400∨size=604800):
  ACalls Tryz.prog 171 [x,i64 n,i64 size] h λr h'=>r=spv (j9 l n size)/\h'=h:=
 Jx ((Kza h x l n size b a c).mono λr h' ⟨q,e⟩=>⟨q.imp_right λq=>⟨q.1,by rw[q.2];rfl⟩,e⟩)
def qY (l:List Spn) (d:Int):List Spn:=j9 l d 86400
def qo (l:List Spn) (k:Int):List Spn:=j9 l k 604800
theorem xUa (h:List Ob) (x:AV) (l:List Spn) (d:Int) (b:SlOf h x 2 (l.map zH)) (a:l.length<1048576):
  ACalls Tryz.prog 219 [x,i64 d] h λr h'=>r=spv (qY l d)/\h'=h:=by
 refine zf Tryz.f219 [.tmp 4] 8 rfl rfl rfl rfl rfl rfl (by decide) (⟨_,_,⟨rfl,rfl⟩,.refl⟩) λB=>?_
 simp only[go_sem]
 refine zc (XSa h x l d 86400 b a (.inl rfl)) ?_
 rintro _ c ⟨rfl,rfl⟩
 simp only[go_sem]
 exact zd (by simp only[go_sem];rfl)
theorem k1a (h:List Ob) (x:AV) (l:List Spn) (k:Int) (b:SlOf h x 2 (l.map zH)) (a:l.length<1048576):
  ACalls Tryz.prog 103 [x,i64 k] h λr h'=>r=spv (qo l k)/\h'=h:=by
 refine zf Tryz.f103 [.tmp 4] 8 rfl rfl rfl rfl rfl rfl (by decide) (⟨_,_,⟨rfl,rfl⟩,.refl⟩) λB=>?_
 simp only[go_sem]
 refine zc (XSa h x l k 604800 b a (.inr rfl)) ?_
 rintro _ c ⟨rfl,rfl⟩
 simp only[go_sem]
 exact zd (by simp only[go_sem];rfl)
theorem yQ (l:List Spn) (n size:Int):(j9 l n size).length<=(zE l).length+1:=by
 unfold j9
 split
 ·simp
 ·have b:=V7 l [⟨n*size,(n+1)*size⟩]
  have a:=zy [(⟨n*size,(n+1)*size⟩:Spn)]
  simp at a
  omega
def qL (n:Int):Int:=ofI n 86400
theorem Wta (n:Int):ji Tryz.prog 218 [i64 n] (i64 (qL n)):=λh=>by
 refine zf Tryz.f218 [.tmp 2] 5 rfl rfl rfl rfl rfl rfl (by decide) (⟨_,_,⟨rfl,rfl⟩,.refl⟩) λB=>?_
 simp only[go_sem]
 refine zc (c51 n 86400 (by decide) _) ?_
 rintro _ a ⟨rfl,rfl⟩
 simp only[go_sem]
 (first | refine zd ?_ | refine ze ?_ (by rfl))<;>(simp only[go_sem,qL]<;>try rfl)
def wP:List Spn->List Spn->Int->List Spn
 | o,[],_=>o
 | o,s::r,n=>if n<=0 then o else wP (o++[Qg s n]) r (n - ((Qg s n).to_ - s.from_))
theorem q1a:∀(l o:List Spn) (n:Int),wP o l n=o++Jw l n
 | [],o,n=>by simp[wP,Jw]
 | s::r,o,n=>by
   rw[wP,Jw]
   split
   ·simp
   ·rw[q1a r];simp
theorem q2a {v o:List Spn} {i:Nat} {n:Int} (a:i<v.length):wP o (v.drop i) n=if n<=0 then o else wP (o++[Qg v[i] n]) (v.drop (i+1)) (n - ((Qg v[i] n).to_ - (v[i]).from_)):=by
 rw[List.drop_eq_getElem_cons a,wP]
theorem Jqa (h:List Ob) (x:AV) (l:List Spn) (n:Int) (P:SlOf h x 2 (l.map zH)) (hl:l.length<1048576) (X:Fit n):
  ACalls Tryz.prog 169 [x,i64 n] h λr h'=>∃L,h'=h++L/\NoRes L/\New h 2 r ((zP l n).map zH) L:=by
 have hex:∃r h',(∃L,h'=h++L/\NoRes L/\New h 2 r ((zP l n).map zH) L)/\ResK h h':=
  ⟨.sl 2 _,_,⟨[],rfl,qh,λ_ _=>⟨rfl,λ_=>rfl⟩⟩,zR⟩
 refine zf Tryz.f169 [.tmp 4] 38 rfl rfl rfl rfl rfl rfl (by decide) (hex) λB=>?_
 simp only[go_sem]
 refine zc (Qk _ x l P (by omega)) ?_
 rintro _ N ⟨rfl,rfl⟩
 have f:zP l n=wP [] ((zE l).drop 0) n:=by rw[q1a];rfl
 have s:= @jZ l
 rw[f]
 obtain ⟨v,J⟩:∃v,v=zE l:=⟨_,rfl⟩
 have U:v.length<1048576:=by have:=zy l;rw[J];omega
 rw[<-J] at s⊢
 obtain ⟨W,I⟩:∃W,W=wP [] (v.drop 0) n:=⟨_,rfl⟩
 rw[<-I]
 simp only[go_sem,List.length_map]
 refine zj (by decide) (λm T h'=>∃(i:Nat) (o:List Spn) (k:Int),i<=v.length/\o.length<=i/\Fit k/\wP o (v.drop i) k=W/\Pre N h'/\OwnS N h' 134 2 (T 4) (o.map zH)/\T 1=i64 k/\T 8=spv v/\T 9=i64 v.length/\T 10=i64 i/\m=v.length - i) v.length
  ⟨0,[],n,by omega,by simp,X,I.symm,Pre.refl,.inl ⟨by simp only[go_sem],rfl⟩,by simp only[go_sem],by simp only[go_sem],by (simp only[go_sem]<;>rfl),by (simp only[go_sem]<;>rfl),rfl⟩ ?_
 rintro m T h' ⟨i,o,k,hi,S,w,a,p,A,t1,t8,t9,t10,rfl⟩
 simp only[go_sem,t9,t10]
 refine ways (λe=>?_) (λe=>?_)
 ·have c:=dlt e
  have b:=Zs c
  have C:(i:Int)<v.length:=by omega
  have Q:=s _ (List.getElem_mem c)
  rw[q2a c] at a
  obtain ⟨z,R⟩:∃z,z=v[i]:=⟨_,rfl⟩
  rw[<-R] at b a Q
  simp only[go_sem,t1,t8,t10,b,C,List.length_map,Int.toNat_natCast,Int.natCast_nonneg]
  refine ways (λd=>?_) (λd=>?_)
  ·have d:k<=0:=of_decide_eq_true d
   rw[if_pos d] at a
   simp only[go_sem]
   subst a
   exact Xk (by simp only[go_sem]) (p.app (zi rfl)) (A.app _)
  ·have d:¬ k<=0:=of_decide_eq_false d
   rw[if_neg d] at a
   obtain ⟨y,D⟩:∃y,y=Qg z k:=⟨_,rfl⟩
   have u:y.from_=z.from_:=by rw[D];rfl
   have g:y.to_=min z.to_ (z.from_+min k 32054400):=by rw[D];rfl
   have F:IntKind.wrap .i64 (z.from_+min k 32054400)=z.from_+min k 32054400:=zI (n:=z.from_+min k 32054400) (by unfold Fit at w ⊢;omega)
   have H:IntKind.wrap .i64 (y.to_ - z.from_)=y.to_ - z.from_:=zI (n:=y.to_ - z.from_) (by unfold Fit at w ⊢;omega)
   have G:IntKind.wrap .i64 (k - (y.to_ - z.from_))=k - (y.to_ - z.from_):=zI (n:=k - (y.to_ - z.from_)) (by unfold Fit at w ⊢;omega)
   have j:Fit (k - (y.to_ - z.from_)):=by unfold Fit at w ⊢;omega
   rw[<-D] at a
   have Z:List.length (zH y)=2:=rfl
   have t:(o.length+1)*17<=140737488355328:=by omega
   rcases A with ⟨t4,q⟩ | ⟨id,st,K,t4,V⟩
   ·simp only[go_sem,t1,t4,t8,t10,List.length_map,Zj,F, <-g,H,G]
    refine ⟨v.length - (i+1),by omega,i+1,o++[y],_,by omega,by simp;omega,j,a,p.app (zg rfl (zg rfl (zi rfl))),.inr ⟨_,_,by have:=p.len;omega,rfl,?_⟩,rfl,t9,zx (by omega) rfl,rfl⟩
    rw[List.map_append,q,zm rfl, <-u]
    rfl
   ·have O:∀M,(h'++M)[id]? =some (.row 134 2 (o.map zH) st):=λM=>zb V
    simp only[go_sem,t1,t4,t8,t10,O,t,List.length_map,Zj,F, <-g,H,G]
    refine ⟨v.length - (i+1),by omega,i+1,o++[y],_,by omega,by simp;omega,j,a,(p.app (zg rfl (zi rfl))).set K rfl,.inr ⟨id,st+1,K,rfl,?_⟩,rfl,t9,zx (by omega) rfl,rfl⟩
    rw[List.map_append, <-u]
    exact zh (O _)
 ·have Y:=qU e
  have E:i=v.length:=by omega
  subst E
  rw[List.drop_length,wP] at a
  subst a
  simp only[go_sem]
  exact Xk (by simp only[go_sem]) p A
theorem zGa (h:List Ob) (x:AV) (l:List Spn) (n:Int) (b:SlOf h x 2 (l.map zH)) (a:l.length<1048576) (c:Fit n):
  ACalls Tryz.prog 169 [x,i64 n] h λr h'=>r=spv (zP l n)/\h'=h:=qK (by decide) (Zr _) (Jqa h x l n b a c)
end Go.Proofs.YtfmldcilgbbimaaGreat.Ax
namespace Go.Proofs.YtfmldcilgbbimaaGreat.Ax
open Go Go.RowKit
structure LIn (F:List (Nat × Ob)) (h0 h:List Ob) (i bty ty e:Nat) (rows:List (List AV)):Prop where
 pre:Pre h0 h
 le:h0.length<=i
 kept:∀z∈F,z.1≠i/\(∃t cs,z.2= .box t cs)/\h[z.1]? =some z.2
 at_:∃x,h[i]? =some (.box bty [x])/\OwnS h0 h ty e x rows
variable {F:List (Nat × Ob)} {h0 h:List Ob} {i bty ty e:Nat} {rows rows':List (List AV)}
theorem LIn.app (k:LIn F h0 h i bty ty e rows) {M:List Ob} (b:NoRes M):LIn F h0 (h++M) i bty ty e rows:=by
 obtain ⟨k1,k2,k3,x,k4,k5⟩:=k
 exact ⟨k1.app b,k2,λz a=>⟨(k3 z a).1,(k3 z a).2.1,zb (k3 z a).2.2⟩,x,zb k4,k5.app M⟩
theorem LIn.lt (k:LIn F h0 h i bty ty e rows):i<h.length:=by
 obtain ⟨x,k4,_⟩:=k.at_
 exact (List.getElem?_eq_some_iff.1 k4).1
theorem LIn.push_nil (k:LIn F h0 h i bty ty e rows) {M:List Ob} (b:NoRes M) {id:Nat} (hid:h.length<=id) (c:(h++M)[id]? =some (.row ty e rows' 0)):LIn F h0 ((h++M).set i (.box bty [.tl id 0])) i bty ty e rows':=by
 have d:=k.lt
 have f:=k.pre.len
 have k':=k.app b
 refine ⟨k'.pre.set k.le rfl,k.le,λz a=>⟨(k.kept z a).1,(k.kept z a).2.1,?_⟩,.tl id 0,?_,.inr ⟨id,0,by omega,rfl,?_⟩⟩
 ·rw[List.getElem?_set_ne (Ne.symm (k.kept z a).1)];exact (k'.kept z a).2.2
 ·rw[List.getElem?_set_self (by rw[List.length_append];omega)]
 ·rw[List.getElem?_set_ne (by omega)];exact c
theorem LIn.push_own (k:LIn F h0 h i bty ty e rows) {M:List Ob} (f:NoRes M) {id st:Nat} (hid:h0.length<=id) (a:h[id]? =some (.row ty e rows st)):LIn F h0 (((h++M).set id (.row ty e rows' (st+1))).set i (.box bty [.tl id (st+1)])) i bty ty e rows':=by
 have o:=k.lt
 have p:=k.pre.len
 have k':=k.app f
 obtain ⟨x,j,_⟩:=k.at_
 have d:id≠i:=λq=>by rw[q,j] at a;cases a
 have m:=(List.getElem?_eq_some_iff.1 a).1
 refine ⟨(k'.pre.set hid rfl).set k.le rfl,k.le,λz b=>⟨(k.kept z b).1,(k.kept z b).2.1,?_⟩,.tl id (st+1),?_,.inr ⟨id,st+1,hid,rfl,?_⟩⟩
 ·obtain ⟨g,⟨t,cs,l⟩,n⟩:=k.kept z b
  have c:id≠z.1:=λq=>by rw[q,n,l] at a;cases a
  rw[List.getElem?_set_ne (Ne.symm g),List.getElem?_set_ne c]
  exact (k'.kept z b).2.2
 ·rw[List.getElem?_set_self (by rw[List.length_set,List.length_append];omega)]
 ·rw[List.getElem?_set_ne (Ne.symm d),List.getElem?_set_self (by rw[List.length_append];omega)]
theorem LIn.any (k:LIn F h0 h i bty ty e rows) (rows':List (List AV)):∃h',LIn F h0 h' i bty ty e rows'/\ResK h h':=by
 have q:=k.push_nil (M:=[.row ty e rows' 0]) (zi rfl) (id:=h.length) (Nat.le_refl _) (by rw[zo rfl];rfl)
 exact ⟨_,q,k.pre.resK q.pre⟩
theorem LIn.keep (k:LIn F h0 h i bty ty e rows) {z:Nat × Ob} (a:z∈F):h[z.1]? =some z.2:=(k.kept z a).2.2
end Go.Proofs.YtfmldcilgbbimaaGreat.Ax
