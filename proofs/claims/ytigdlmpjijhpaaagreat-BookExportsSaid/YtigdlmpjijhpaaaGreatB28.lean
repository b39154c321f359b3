import Derived.Test.YtigdlmpjijhpaaaGreatBA
import Derived.Test.YtigdlmpjijhpaaaGreatB27
import Derived.Test.YtigdlmpjijhpaaaGreatB21
import Derived.Test.YtigdlmpjijhpaaaGreatB25
set_option linter.all false
namespace Go.Proofs.YtigdlmpjijhpaaaGreat.Ax
open Go Go.Proofs
theorem qWa{p:qt}(h:rok p=true):(0<p.2/\p.2<=2147483647)/\(-2147483647<=p.1/\p.1<=2147483647):=by
 simp only[rok,zl,beq_iff_eq] at h
 obtain⟨c,a,b⟩:=h
 unfold make at c a b
 by_cases d:p.2<=0
 ·rw[if_pos d] at c;simp at c
 ·rw[if_neg d] at c a b
  by_cases f:p.1=0
  ·rw[if_pos f] at a b
   simp only at a b
   omega
  ·rw[if_neg f] at c a b
   split at c
   ·simp at c
   ·rename_i e
    rw[if_neg e] at a b
    simp only at a b
    rw[a,b] at e
    omega
def qUb(L:Nat):Bool:=(make L 100).2==0 && (rok (make L 100).1 && ((make L 100).1.1*100==(L:Int)*(make L 100).1.2 && (decide (0<(make L 100).1.2) && (decide ((make L 100).1.2<=100) && (decide (0<=(make L 100).1.1) && decide ((make L 100).1.1<=1000))))))
theorem Voa:∀L:Nat,L<1001->qUb L=true:=by decide+kernel
theorem VG{p:qt}{t:KG}(g:rok p=true)(h0:0<=t.1)(r:t.1<=1000):yU p t=true↔t.1*p.2<=100*p.1:=by
 obtain⟨⟨b1,b2⟩,b3,b4⟩:=qWa g
 obtain⟨L,e⟩:=Int.eq_ofNat_of_zero_le h0
 have d:=Voa L (by omega)
 simp only[qUb,zl,beq_iff_eq,decide_eq_true_eq] at d
 obtain⟨_,q,o,l,s,j,k⟩:=d
 rw[e]
 unfold yU
 rw[e]
 change (!YA p (make (L:Int) 100).1)=true↔(L:Int)*p.2<=100*p.1
 generalize (make (L:Int) 100).1=m at*
 have v:p.1*m.2<=2147483647*100:=by
  have:=Int.mul_le_mul_of_nonneg_right (a:=p.1) (b:=2147483647) (c:=m.2) b4 (by omega)
  omega
 have x: -2147483647*100<=p.1*m.2:=by
  have:=Int.mul_le_mul_of_nonneg_right (a:= -2147483647) (b:=p.1) (c:=m.2) b3 (by omega)
  omega
 have w:0<=m.1*p.2:=Int.mul_nonneg j (by omega)
 have u:m.1*p.2<=1000*2147483647:=by
  have:=Int.mul_le_mul k b2 (by omega) (by omega)
  exact this
 unfold YA
 rw[g,q,qp (n:=p.1*m.2) (by unfold Fit;omega),qp (n:=m.1*p.2) (by unfold Fit;omega)]
 simp only[Bool.true_and,Bool.not_eq_true',decide_eq_false_iff_not,Int.not_lt]
 have i:m.2*((L:Int)*p.2)=100*(m.1*p.2):=by
  rw[<-Int.mul_assoc,Int.mul_comm m.2, <-o,Int.mul_comm m.1 100,Int.mul_assoc]
 have f:m.2*(100*p.1)=100*(p.1*m.2):=by
  rw[<-Int.mul_assoc,Int.mul_comm m.2 100,Int.mul_assoc,Int.mul_comm m.2]
 constructor
 ·intro h
  have:m.2*((L:Int)*p.2)<=m.2*(100*p.1):=by rw[i,f];omega
  exact Int.le_of_mul_le_mul_left this l
 ·intro h
  have:=Int.mul_le_mul_of_nonneg_left h (show 0<=m.2 by omega)
  rw[i,f] at this
  omega
theorem Y8(p:qt):∀(l:List KG) (out i:Int),(Qo p out i l=out/\∀t∈l,yU p t=false)∨∃(j:Nat) (t:KG),l[j]? =some t/\Qo p out i l=i+j/\yU p t=true/\∀k b,j<k->l[k]? =some b->yU p b=false
 | [],out,i=> .inl ⟨rfl,λ_ h=>by cases h⟩
 | t::l,out,i=>by
   have e:Qo p out i (t::l)=Qo p (if yU p t then i else out) (i+1) l:=rfl
   rcases Y8 p l (if yU p t then i else out) (i+1) with⟨f,d⟩|⟨j,u,f,d,n,m⟩
   ·cases c:yU p t
    ·refine .inl ⟨by rw[e,f,c];rfl,λx g=>?_⟩
     rcases zE.1 g with rfl|g
     ·exact c
     ·exact d x g
    ·refine .inr ⟨0,t,rfl,by rw[e,f,c];simp,c,λk b o a=>?_⟩
     cases k with
     | zero=>omega
     | succ k=>exact d b (qi (by simpa using a))
   ·refine .inr ⟨j+1,u,by simpa using f,by rw[e,d];omega,n,λk b o a=>?_⟩
    cases k with
    | zero=>omega
    | succ k=>exact m k b (by omega) (by simpa using a)
theorem kfa:∀ {l:List KG} {last:Int}, -1<=last->xV last l=false->∀t∈l,0<=t.1/\t.1<=1000
 | [],_,_,_,_,a=>by cases a
 | x::l,last,h0,h,t,a=>by
   simp only[xV,Zf,zY,decide_eq_false_iff_not] at h
   obtain⟨⟨⟨d,c⟩,_⟩,b⟩:=h
   rcases zE.1 a with rfl|a
   ·omega
   ·exact kfa (last:=x.1) (by omega) b t a
theorem kga{s:Setup}(a:qv s=true):(∀t∈s.tiers,0<=t.1/\t.1<=1000)/\s.tiers.length<=8:=by
 simp only[qv,wM,zl,Bool.not_eq_true',decide_eq_true_eq] at a
 exact⟨kfa (by omega) a.2.2,by have:=a.2.1.2;omega⟩
theorem yxa{s:Setup}{p:qt}(l:qv s=true)(h:rok p=true):(kV s p= -1/\∀t∈s.tiers,¬ t.1*p.2<=100*p.1)∨∃(j:Nat) (t:KG),s.tiers[j]? =some t/\kV s p=(j:Int)/\t.1*p.2<=100*p.1/\∀k b,j<k->s.tiers[k]? =some b->¬ b.1*p.2<=100*p.1:=by
 have a:=(kga l).1
 have e:kV s p=Qo p (-1) 0 s.tiers:=by unfold kV;rw[l,h];rfl
 rw[e]
 rcases Y8 p s.tiers (-1) 0 with⟨g,i⟩|⟨j,t,g,i,n,m⟩
 ·exact .inl ⟨g,λt c q=>by
   have:=(VG h (a t c).1 (a t c).2).2 q
   rw[i t c] at this;cases this⟩
 ·have c:=qi g
  refine .inr ⟨j,t,g,by rw[i];omega,(VG h (a t c).1 (a t c).2).1 n,λk b o d q=>?_⟩
  have f:=qi d
  have:=(VG h (a b f).1 (a b f).2).2 q
  rw[m k b o d] at this;cases this
def vY(f:qt->qt->qt × Int)(a b:qt)(w:Int):qt × Int:=(if w=0 then(f a b).1 else(0,0),if w=0 then(f a b).2 else w)
def Ji:qt->qt->qt × Int:=Ze jJa
def kia(a b:qt):qt × Int:=yS [a,b]
def Wn(l:List qt)(i:Int):qt:=l.getD i.toNat (0,0)
def kja(l:List Elt)(i:Int):Elt:=l.getD i.toNat ((0,0),(0,0))
def ZH(s:Setup)(e:Ev)(a:Int):qt × Int:=
 let b:=vY Ji (a,1) s.pace 0
 let g:=vY Ji b.1 (Wn s.gears e.gear) b.2
 let c:=vY Ji (kja s.elements e.element).2 (e.units,1) g.2
 let h:=vY kia (kja s.elements e.element).1 c.1 c.2
 let f:=vY Ji h.1 (Wn s.classes e.class_) h.2
 let d:=vY kia g.1 f.1 f.2
 vY Ji d.1 (make (wr (100+s.allow)) 100).1 d.2
def Qda(s:Setup)(e:Ev):Int:=kD (ZG s) e.from_.toNat e.to_.toNat
def vl(s:Setup)(e:Ev):qt × Int:=
 if qv s && (wi s e && e.kind==3) then
  if Qda s e= -1 then((0,0),100) else if(ZH s e (Qda s e)).2=0 then((ZH s e (Qda s e)).1,0) else((0,0),(ZH s e (Qda s e)).2)
 else((0,0),100)
def jd(z:qt × Int)(v:qt × Int):qt × Int:=if z.2=0 then v else z
def ZI(l:List Ev)(g:Seg):Ev:=(l.find? (ZF g.id)).getD wja
def xA(k:Int)(g:Seg):Bool:=g.kind==1 && yJ g.from_==k
def ZO:qt->qt->qt × Int:=Ze K7a
def VI:qt->qt->qt × Int:=Ze JQa
structure PerfV where
 earned:qt
 eligible:Int
 perf:qt
 err:Int
def kka(s:Setup)(events:List Ev)(segs:List Seg)(k:Int):PerfV:=
 let f:=segs.filter (xA k)
 let eligible:=f.foldl (λn g=>wr (n+wr (g.to_ - g.from_))) 0
 let goals:=f.map λg=>(vl s (ZI events g)).1
 let h:=f.foldl (λz g=>jd z ((0,1),(vl s (ZI events g)).2)) ((0,1),0)
 let e:=jd h (yS goals)
 let d:=jd ((0,1),e.2) (make (wr (s.fault*(vE events k:Int))) 1)
 let c:=jd e d
 let b:=if c.2=0 then jd c (ZO (yS goals).1 d.1) else c
 let a:=if b.2=0/\b.1.1<0 then((0,1),b.2) else b
 let done:=if eligible>0/\a.2=0 then jd (jd ((0,1),a.2) (make eligible 1)) (VI a.1 (make eligible 1).1) else((0,1),a.2)
 if done.2=0 then⟨a.1,eligible,done.1,0⟩ else⟨(0,0),eligible,(0,0),done.2⟩
def kE(s:Setup)(l:List Ev)(w k:Int):PerfV:=
 if qv s then kka s (KW s w l) (qF s (KW s w l) w).1 k else⟨(0,1),0,(0,1),0⟩
