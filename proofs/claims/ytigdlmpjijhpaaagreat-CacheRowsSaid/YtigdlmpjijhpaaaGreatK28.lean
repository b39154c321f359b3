import Derived.Test.YtigdlmpjijhpaaaGreatKA
import Derived.Test.YtigdlmpjijhpaaaGreatK27
import Derived.Test.YtigdlmpjijhpaaaGreatK21
import Derived.Test.YtigdlmpjijhpaaaGreatK25
set_option linter.all false
namespace Go.Proofs.YtigdlmpjijhpaaaGreat.Ax
open Go Go.Proofs
theorem qXa{p:qw}(h:rok p=true):(0<p.2/\p.2<=2147483647)/\(-2147483647<=p.1/\p.1<=2147483647):=by
 simp only[rok,zq,beq_iff_eq] at h
 obtain⟨c,a,b⟩:=h
 unfold make at c a b
 by_cases d:p.2<=0
 ·rw[if_pos d] at c;simp at c
 ·rw[if_neg d] at c a b
  by_cases e:p.1=0
  ·rw[if_pos e] at a b
   simp only at a b
   omega
  ·rw[if_neg e] at c a b
   split at c
   ·simp at c
   ·rename_i f
    rw[if_neg f] at a b
    simp only at a b
    rw[a,b] at f
    omega
def jmb(L:Nat):Bool:=(make L 100).2==0 && (rok (make L 100).1 && ((make L 100).1.1*100==(L:Int)*(make L 100).1.2 && (decide (0<(make L 100).1.2) && (decide ((make L 100).1.2<=100) && (decide (0<=(make L 100).1.1) && decide ((make L 100).1.1<=1000))))))
theorem VQa:∀L:Nat,L<1001->jmb L=true:=by decide+kernel
theorem VU{p:qw}{t:K1}(g:rok p=true)(h0:0<=t.1)(x:t.1<=1000):Zb p t=true↔t.1*p.2<=100*p.1:=by
 obtain⟨⟨b1,b2⟩,b3,b4⟩:=qXa g
 obtain⟨L,i⟩:=Int.eq_ofNat_of_zero_le h0
 have e:=VQa L (by omega)
 simp only[jmb,zq,beq_iff_eq,decide_eq_true_eq] at e
 obtain⟨_,q,o,l,v,j,k⟩:=e
 rw[i]
 unfold Zb
 rw[i]
 change (!YN p (make (L:Int) 100).1)=true↔(L:Int)*p.2<=100*p.1
 generalize (make (L:Int) 100).1=m at*
 have w:p.1*m.2<=2147483647*100:=by
  have:=Int.mul_le_mul_of_nonneg_right (a:=p.1) (b:=2147483647) (c:=m.2) b4 (by omega)
  omega
 have r: -2147483647*100<=p.1*m.2:=by
  have:=Int.mul_le_mul_of_nonneg_right (a:= -2147483647) (b:=p.1) (c:=m.2) b3 (by omega)
  omega
 have s:0<=m.1*p.2:=Int.mul_nonneg j (by omega)
 have u:m.1*p.2<=1000*2147483647:=by
  have:=Int.mul_le_mul k b2 (by omega) (by omega)
  exact this
 unfold YN
 rw[g,q,qq (n:=p.1*m.2) (by unfold Fit;omega),qq (n:=m.1*p.2) (by unfold Fit;omega)]
 simp only[Bool.true_and,Bool.not_eq_true',decide_eq_false_iff_not,Int.not_lt]
 have f:m.2*((L:Int)*p.2)=100*(m.1*p.2):=by
  rw[<-Int.mul_assoc,Int.mul_comm m.2, <-o,Int.mul_comm m.1 100,Int.mul_assoc]
 have d:m.2*(100*p.1)=100*(p.1*m.2):=by
  rw[<-Int.mul_assoc,Int.mul_comm m.2 100,Int.mul_assoc,Int.mul_comm m.2]
 constructor
 ·intro h
  have:m.2*((L:Int)*p.2)<=m.2*(100*p.1):=by rw[f,d];omega
  exact Int.le_of_mul_le_mul_left this l
 ·intro h
  have:=Int.mul_le_mul_of_nonneg_left h (show 0<=m.2 by omega)
  rw[f,d] at this
  omega
theorem zma(p:qw):∀(l:List K1) (out i:Int),(QF p out i l=out/\∀t∈l,Zb p t=false)∨∃(j:Nat) (t:K1),l[j]? =some t/\QF p out i l=i+j/\Zb p t=true/\∀k b,j<k->l[k]? =some b->Zb p b=false
 | [],out,i=> .inl ⟨rfl,λ_ h=>by cases h⟩
 | t::l,out,i=>by
   have e:QF p out i (t::l)=QF p (if Zb p t then i else out) (i+1) l:=rfl
   rcases zma p l (if Zb p t then i else out) (i+1) with⟨f,c⟩|⟨j,u,f,c,n,m⟩
   ·cases d:Zb p t
    ·refine .inl ⟨by rw[e,f,d];rfl,λx g=>?_⟩
     rcases zy.1 g with rfl|g
     ·exact d
     ·exact c x g
    ·refine .inr ⟨0,t,rfl,by rw[e,f,d];simp,d,λk b o a=>?_⟩
     cases k with
     | zero=>omega
     | succ k=>exact c b (qr (by simpa using a))
   ·refine .inr ⟨j+1,u,by simpa using f,by rw[e,c];omega,n,λk b o a=>?_⟩
    cases k with
    | zero=>omega
    | succ k=>exact m k b (by omega) (by simpa using a)
theorem kpa:∀ {l:List K1} {last:Int}, -1<=last->kn last l=false->∀t∈l,0<=t.1/\t.1<=1000
 | [],_,_,_,_,a=>by cases a
 | x::l,last,h0,h,t,a=>by
   simp only[kn,Zm,zY,decide_eq_false_iff_not] at h
   obtain⟨⟨⟨d,c⟩,_⟩,b⟩:=h
   rcases zy.1 a with rfl|a
   ·omega
   ·exact kpa (last:=x.1) (by omega) b t a
theorem kqa{s:Setup}(a:z6 s=true):(∀t∈s.tiers,0<=t.1/\t.1<=1000)/\s.tiers.length<=8:=by
 simp only[z6,wZ,zq,Bool.not_eq_true',decide_eq_true_eq] at a
 exact⟨kpa (by omega) a.2.2,by have:=a.2.1.2;omega⟩
theorem yFa{s:Setup}{p:qw}(l:z6 s=true)(h:rok p=true):(vk s p= -1/\∀t∈s.tiers,¬ t.1*p.2<=100*p.1)∨∃(j:Nat) (t:K1),s.tiers[j]? =some t/\vk s p=(j:Int)/\t.1*p.2<=100*p.1/\∀k c,j<k->s.tiers[k]? =some c->¬ c.1*p.2<=100*p.1:=by
 have a:=(kqa l).1
 have e:vk s p=QF p (-1) 0 s.tiers:=by unfold vk;rw[l,h];rfl
 rw[e]
 rcases zma p s.tiers (-1) 0 with⟨g,i⟩|⟨j,t,g,i,n,m⟩
 ·exact .inl ⟨g,λt b q=>by
   have:=(VU h (a t b).1 (a t b).2).2 q
   rw[i t b] at this;cases this⟩
 ·have b:=qr g
  refine .inr ⟨j,t,g,by rw[i];omega,(VU h (a t b).1 (a t b).2).1 n,λk c o d q=>?_⟩
  have f:=qr d
  have:=(VU h (a c f).1 (a c f).2).2 q
  rw[m k c o d] at this;cases this
def wq(f:qw->qw->qw × Int)(a b:qw)(w:Int):qw × Int:=(if w=0 then(f a b).1 else(0,0),if w=0 then(f a b).2 else w)
def JE:qw->qw->qw × Int:=Zl jNa
def ksa(a b:qw):qw × Int:=y8 [a,b]
def Wz(l:List qw)(i:Int):qw:=l.getD i.toNat (0,0)
def kta(l:List Elt)(i:Int):Elt:=l.getD i.toNat ((0,0),(0,0))
def ZK(s:Setup)(e:Ev)(a:Int):qw × Int:=
 let f:=wq JE (a,1) s.pace 0
 let c:=wq JE f.1 (Wz s.gears e.gear) f.2
 let b:=wq JE (kta s.elements e.element).2 (e.units,1) c.2
 let h:=wq ksa (kta s.elements e.element).1 b.1 b.2
 let d:=wq JE h.1 (Wz s.classes e.class_) h.2
 let g:=wq ksa c.1 d.1 d.2
 wq JE g.1 (make (wr (100+s.allow)) 100).1 g.2
def Qna(s:Setup)(e:Ev):Int:=kI (ZJ s) e.from_.toNat e.to_.toNat
def xQ(s:Setup)(e:Ev):qw × Int:=
 if z6 s && (vI s e && e.kind==3) then
  if Qna s e= -1 then((0,0),100) else if(ZK s e (Qna s e)).2=0 then((ZK s e (Qna s e)).1,0) else((0,0),(ZK s e (Qna s e)).2)
 else((0,0),100)
def jf(z:qw × Int)(v:qw × Int):qw × Int:=if z.2=0 then v else z
def kY(l:List Ev)(g:Seg):Ev:=(l.find? (Za g.id)).getD wna
def jH(k:Int)(g:Seg):Bool:=g.kind==1 && xS g.from_==k
def ZV:qw->qw->qw × Int:=Zl Vya
def VW:qw->qw->qw × Int:=Zl Xda
structure PerfV where
 earned:qw
 eligible:Int
 perf:qw
 err:Int
def WA(s:Setup)(events:List Ev)(segs:List Seg)(k:Int):PerfV:=
 let f:=segs.filter (jH k)
 let eligible:=f.foldl (λn g=>wr (n+wr (g.to_ - g.from_))) 0
 let goals:=f.map λg=>(xQ s (kY events g)).1
 let h:=f.foldl (λz g=>jf z ((0,1),(xQ s (kY events g)).2)) ((0,1),0)
 let e:=jf h (y8 goals)
 let d:=jf ((0,1),e.2) (make (wr (s.fault*(kp events k:Int))) 1)
 let c:=jf e d
 let b:=if c.2=0 then jf c (ZV (y8 goals).1 d.1) else c
 let a:=if b.2=0/\b.1.1<0 then((0,1),b.2) else b
 let done:=if eligible>0/\a.2=0 then jf (jf ((0,1),a.2) (make eligible 1)) (VW a.1 (make eligible 1).1) else((0,1),a.2)
 if done.2=0 then⟨a.1,eligible,done.1,0⟩ else⟨(0,0),eligible,(0,0),done.2⟩
def vz(s:Setup)(l:List Ev)(w k:Int):PerfV:=
 if z6 s then WA s (XP s w l) (qA s (XP s w l) w).1 k else⟨(0,1),0,(0,1),0⟩
