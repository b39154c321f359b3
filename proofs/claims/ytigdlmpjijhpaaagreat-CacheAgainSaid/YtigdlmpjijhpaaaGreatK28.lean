import Derived.Test.YtigdlmpjijhpaaaGreatKA
import Derived.Test.YtigdlmpjijhpaaaGreatK27
import Derived.Test.YtigdlmpjijhpaaaGreatK21
import Derived.Test.YtigdlmpjijhpaaaGreatK25
set_option linter.all false
namespace Go.Proofs.YtigdlmpjijhpaaaGreat.Ax
open Go Go.Proofs
theorem q1a{p:qx}(h:rok p=true):(0<p.2/\p.2<=2147483647)/\(-2147483647<=p.1/\p.1<=2147483647):=by
 simp only[rok,zq,beq_iff_eq] at h
 obtain⟨c,b,a⟩:=h
 unfold make at c b a
 by_cases e:p.2<=0
 ·rw[if_pos e] at c;simp at c
 ·rw[if_neg e] at c b a
  by_cases f:p.1=0
  ·rw[if_pos f] at b a
   simp only at b a
   omega
  ·rw[if_neg f] at c b a
   split at c
   ·simp at c
   ·rename_i d
    rw[if_neg d] at b a
    simp only at b a
    rw[b,a] at d
    omega
def jDb(L:Nat):Bool:=(make L 100).2==0 && (rok (make L 100).1 && ((make L 100).1.1*100==(L:Int)*(make L 100).1.2 && (decide (0<(make L 100).1.2) && (decide ((make L 100).1.2<=100) && (decide (0<=(make L 100).1.1) && decide ((make L 100).1.1<=1000))))))
theorem V3a:∀L:Nat,L<1001->jDb L=true:=by decide+kernel
theorem VW{p:qx}{t:K2}(e:rok p=true)(h0:0<=t.1)(x:t.1<=1000):Zd p t=true↔t.1*p.2<=100*p.1:=by
 obtain⟨⟨b1,b2⟩,b3,b4⟩:=q1a e
 obtain⟨L,d⟩:=Int.eq_ofNat_of_zero_le h0
 have i:=V3a L (by omega)
 simp only[jDb,zq,beq_iff_eq,decide_eq_true_eq] at i
 obtain⟨_,l,q,o,w,j,k⟩:=i
 rw[d]
 unfold Zd
 rw[d]
 change (!YP p (make (L:Int) 100).1)=true↔(L:Int)*p.2<=100*p.1
 generalize (make (L:Int) 100).1=m at*
 have s:p.1*m.2<=2147483647*100:=by
  have:=Int.mul_le_mul_of_nonneg_right (a:=p.1) (b:=2147483647) (c:=m.2) b4 (by omega)
  omega
 have v: -2147483647*100<=p.1*m.2:=by
  have:=Int.mul_le_mul_of_nonneg_right (a:= -2147483647) (b:=p.1) (c:=m.2) b3 (by omega)
  omega
 have r:0<=m.1*p.2:=Int.mul_nonneg j (by omega)
 have u:m.1*p.2<=1000*2147483647:=by
  have:=Int.mul_le_mul k b2 (by omega) (by omega)
  exact this
 unfold YP
 rw[e,l,qp (n:=p.1*m.2) (by unfold Fit;omega),qp (n:=m.1*p.2) (by unfold Fit;omega)]
 simp only[Bool.true_and,Bool.not_eq_true',decide_eq_false_iff_not,Int.not_lt]
 have g:m.2*((L:Int)*p.2)=100*(m.1*p.2):=by
  rw[<-Int.mul_assoc,Int.mul_comm m.2, <-q,Int.mul_comm m.1 100,Int.mul_assoc]
 have f:m.2*(100*p.1)=100*(p.1*m.2):=by
  rw[<-Int.mul_assoc,Int.mul_comm m.2 100,Int.mul_assoc,Int.mul_comm m.2]
 constructor
 ·intro h
  have:m.2*((L:Int)*p.2)<=m.2*(100*p.1):=by rw[g,f];omega
  exact Int.le_of_mul_le_mul_left this o
 ·intro h
  have:=Int.mul_le_mul_of_nonneg_left h (show 0<=m.2 by omega)
  rw[g,f] at this
  omega
theorem zpa(p:qx):∀(l:List K2) (out i:Int),(QI p out i l=out/\∀t∈l,Zd p t=false)∨∃(j:Nat) (t:K2),l[j]? =some t/\QI p out i l=i+j/\Zd p t=true/\∀k b,j<k->l[k]? =some b->Zd p b=false
 | [],out,i=> .inl ⟨rfl,λ_ h=>by cases h⟩
 | t::l,out,i=>by
   have e:QI p out i (t::l)=QI p (if Zd p t then i else out) (i+1) l:=rfl
   rcases zpa p l (if Zd p t then i else out) (i+1) with⟨f,d⟩|⟨j,u,f,d,o,m⟩
   ·cases c:Zd p t
    ·refine .inl ⟨by rw[e,f,c];rfl,λx g=>?_⟩
     rcases zx.1 g with rfl|g
     ·exact c
     ·exact d x g
    ·refine .inr ⟨0,t,rfl,by rw[e,f,c];simp,c,λk b n a=>?_⟩
     cases k with
     | zero=>omega
     | succ k=>exact d b (qq (by simpa using a))
   ·refine .inr ⟨j+1,u,by simpa using f,by rw[e,d];omega,o,λk b n a=>?_⟩
    cases k with
    | zero=>omega
    | succ k=>exact m k b (by omega) (by simpa using a)
theorem ksa:∀ {l:List K2} {last:Int}, -1<=last->ku last l=false->∀t∈l,0<=t.1/\t.1<=1000
 | [],_,_,_,_,a=>by cases a
 | x::l,last,h0,h,t,a=>by
   simp only[ku,Zq,zY,decide_eq_false_iff_not] at h
   obtain⟨⟨⟨d,c⟩,_⟩,b⟩:=h
   rcases zx.1 a with rfl|a
   ·omega
   ·exact ksa (last:=x.1) (by omega) b t a
theorem kta{s:Setup}(a:z6 s=true):(∀t∈s.tiers,0<=t.1/\t.1<=1000)/\s.tiers.length<=8:=by
 simp only[z6,w8,zq,Bool.not_eq_true',decide_eq_true_eq] at a
 exact⟨ksa (by omega) a.2.2,by have:=a.2.1.2;omega⟩
theorem yKa{s:Setup}{p:qx}(l:z6 s=true)(g:rok p=true):(vl s p= -1/\∀t∈s.tiers,¬ t.1*p.2<=100*p.1)∨∃(j:Nat) (t:K2),s.tiers[j]? =some t/\vl s p=(j:Int)/\t.1*p.2<=100*p.1/\∀k b,j<k->s.tiers[k]? =some b->¬ b.1*p.2<=100*p.1:=by
 have a:=(kta l).1
 have e:vl s p=QI p (-1) 0 s.tiers:=by unfold vl;rw[l,g];rfl
 rw[e]
 rcases zpa p s.tiers (-1) 0 with⟨h,i⟩|⟨j,t,h,i,o,m⟩
 ·exact .inl ⟨h,λt c q=>by
   have:=(VW g (a t c).1 (a t c).2).2 q
   rw[i t c] at this;cases this⟩
 ·have c:=qq h
  refine .inr ⟨j,t,h,by rw[i];omega,(VW g (a t c).1 (a t c).2).1 o,λk b n d q=>?_⟩
  have f:=qq d
  have:=(VW g (a b f).1 (a b f).2).2 q
  rw[m k b n d] at this;cases this
def wu(f:qx->qx->qx × Int)(a b:qx)(w:Int):qx × Int:=(if w=0 then(f a b).1 else(0,0),if w=0 then(f a b).2 else w)
def JG:qx->qx->qx × Int:=Zp jRa
def kva(a b:qx):qx × Int:=Za [a,b]
def WB(l:List qx)(i:Int):qx:=l.getD i.toNat (0,0)
def kwa(l:List Elt)(i:Int):Elt:=l.getD i.toNat ((0,0),(0,0))
def ZN(s:Setup)(e:Ev)(a:Int):qx × Int:=
 let b:=wu JG (a,1) s.pace 0
 let h:=wu JG b.1 (WB s.gears e.gear) b.2
 let f:=wu JG (kwa s.elements e.element).2 (e.units,1) h.2
 let c:=wu kva (kwa s.elements e.element).1 f.1 f.2
 let d:=wu JG c.1 (WB s.classes e.class_) c.2
 let g:=wu kva h.1 d.1 d.2
 wu JG g.1 (make (wr (100+s.allow)) 100).1 g.2
def Qua(s:Setup)(e:Ev):Int:=kN (ZM s) e.from_.toNat e.to_.toNat
def xS(s:Setup)(e:Ev):qx × Int:=
 if z6 s && (vK s e && e.kind==3) then
  if Qua s e= -1 then((0,0),100) else if(ZN s e (Qua s e)).2=0 then((ZN s e (Qua s e)).1,0) else((0,0),(ZN s e (Qua s e)).2)
 else((0,0),100)
def jg(z:qx × Int)(v:qx × Int):qx × Int:=if z.2=0 then v else z
def vd(l:List Ev)(g:Seg):Ev:=(l.find? (Zc g.id)).getD wta
def jI(k:Int)(g:Seg):Bool:=g.kind==1 && xW g.from_==k
def ZW:qx->qx->qx × Int:=Zp VLa
def VY:qx->qx->qx × Int:=Zp Xna
structure PerfV where
 earned:qx
 eligible:Int
 perf:qx
 err:Int
def WC(s:Setup)(events:List Ev)(segs:List Seg)(k:Int):PerfV:=
 let f:=segs.filter (jI k)
 let eligible:=f.foldl (λn g=>wr (n+wr (g.to_ - g.from_))) 0
 let goals:=f.map λg=>(xS s (vd events g)).1
 let h:=f.foldl (λz g=>jg z ((0,1),(xS s (vd events g)).2)) ((0,1),0)
 let d:=jg h (Za goals)
 let e:=jg ((0,1),d.2) (make (wr (s.fault*(kx events k:Int))) 1)
 let c:=jg d e
 let b:=if c.2=0 then jg c (ZW (Za goals).1 e.1) else c
 let a:=if b.2=0/\b.1.1<0 then((0,1),b.2) else b
 let done:=if eligible>0/\a.2=0 then jg (jg ((0,1),a.2) (make eligible 1)) (VY a.1 (make eligible 1).1) else((0,1),a.2)
 if done.2=0 then⟨a.1,eligible,done.1,0⟩ else⟨(0,0),eligible,(0,0),done.2⟩
def vA(s:Setup)(l:List Ev)(w k:Int):PerfV:=
 if z6 s then WC s (XQ s w l) (qA s (XQ s w l) w).1 k else⟨(0,1),0,(0,1),0⟩
