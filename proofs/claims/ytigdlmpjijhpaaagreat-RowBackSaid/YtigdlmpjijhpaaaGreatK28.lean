import Derived.Test.YtigdlmpjijhpaaaGreatKA
import Derived.Test.YtigdlmpjijhpaaaGreatK27
import Derived.Test.YtigdlmpjijhpaaaGreatK21
import Derived.Test.YtigdlmpjijhpaaaGreatK25
set_option linter.all false
namespace Go.Proofs.YtigdlmpjijhpaaaGreat.Ax
open Go Go.Proofs
theorem Y0{p:qd}(h:rok p=true):(0<p.2/\p.2<=2147483647)/\(-2147483647<=p.1/\p.1<=2147483647):=by
 simp only[rok,zj,beq_iff_eq] at h
 obtain⟨c,a,b⟩:=h
 unfold make at c a b
 by_cases d:p.2<=0
 ·rw[if_pos d] at c;simp at c
 ·rw[if_neg d] at c a b
  by_cases f:p.1=0
  ·rw[if_pos f] at a b
   simp only at a b
   omega
  ·rw[if_neg f] at c a b
   split at c
   ·simp at c
   ·rename_i e
    rw[if_neg e] at a b
    simp only at a b
    rw[a,b] at e
    omega
def Wda(L:Nat):Bool:=(make L 100).2==0 && (rok (make L 100).1 && ((make L 100).1.1*100==(L:Int)*(make L 100).1.2 && (decide (0<(make L 100).1.2) && (decide ((make L 100).1.2<=100) && (decide (0<=(make L 100).1.1) && decide ((make L 100).1.1<=1000))))))
theorem Jka:∀L:Nat,L<1001->Wda L=true:=by decide+kernel
theorem Kh{p:qd}{t:Xx}(f:rok p=true)(h0:0<=t.1)(v:t.1<=1000):wW p t=true↔t.1*p.2<=100*p.1:=by
 obtain⟨⟨b1,b2⟩,b3,b4⟩:=Y0 f
 obtain⟨L,i⟩:=Int.eq_ofNat_of_zero_le h0
 have e:=Jka L (by omega)
 simp only[Wda,zj,beq_iff_eq,decide_eq_true_eq] at e
 obtain⟨_,q,l,o,s,j,k⟩:=e
 rw[i]
 unfold wW
 rw[i]
 change (!V1 p (make (L:Int) 100).1)=true↔(L:Int)*p.2<=100*p.1
 generalize (make (L:Int) 100).1=m at*
 have w:p.1*m.2<=2147483647*100:=by
  have:=Int.mul_le_mul_of_nonneg_right (a:=p.1) (b:=2147483647) (c:=m.2) b4 (by omega)
  omega
 have r: -2147483647*100<=p.1*m.2:=by
  have:=Int.mul_le_mul_of_nonneg_right (a:= -2147483647) (b:=p.1) (c:=m.2) b3 (by omega)
  omega
 have u:0<=m.1*p.2:=Int.mul_nonneg j (by omega)
 have x:m.1*p.2<=1000*2147483647:=by
  have:=Int.mul_le_mul k b2 (by omega) (by omega)
  exact this
 unfold V1
 rw[f,q,qb (n:=p.1*m.2) (by unfold Fit;omega),qb (n:=m.1*p.2) (by unfold Fit;omega)]
 simp only[Bool.true_and,Bool.not_eq_true',decide_eq_false_iff_not,Int.not_lt]
 have g:m.2*((L:Int)*p.2)=100*(m.1*p.2):=by
  rw[<-Int.mul_assoc,Int.mul_comm m.2, <-l,Int.mul_comm m.1 100,Int.mul_assoc]
 have d:m.2*(100*p.1)=100*(p.1*m.2):=by
  rw[<-Int.mul_assoc,Int.mul_comm m.2 100,Int.mul_assoc,Int.mul_comm m.2]
 constructor
 ·intro h
  have:m.2*((L:Int)*p.2)<=m.2*(100*p.1):=by rw[g,d];omega
  exact Int.le_of_mul_le_mul_left this o
 ·intro h
  have:=Int.mul_le_mul_of_nonneg_left h (show 0<=m.2 by omega)
  rw[g,d] at this
  omega
theorem Wq(p:qd):∀(l:List Xx) (out i:Int),(Zz p out i l=out/\∀t∈l,wW p t=false)∨∃(j:Nat) (t:Xx),l[j]? =some t/\Zz p out i l=i+j/\wW p t=true/\∀k b,j<k->l[k]? =some b->wW p b=false
 | [],out,i=> .inl ⟨rfl,λ_ h=>by cases h⟩
 | t::l,out,i=>by
   have e:Zz p out i (t::l)=Zz p (if wW p t then i else out) (i+1) l:=rfl
   rcases Wq p l (if wW p t then i else out) (i+1) with⟨f,c⟩|⟨j,u,f,c,m,o⟩
   ·cases d:wW p t
    ·refine .inl ⟨by rw[e,f,d];rfl,λx g=>?_⟩
     rcases zH.1 g with rfl|g
     ·exact d
     ·exact c x g
    ·refine .inr ⟨0,t,rfl,by rw[e,f,d];simp,d,λk b n a=>?_⟩
     cases k with
     | zero=>omega
     | succ k=>exact c b (qn (by simpa using a))
   ·refine .inr ⟨j+1,u,by simpa using f,by rw[e,c];omega,m,λk b n a=>?_⟩
    cases k with
    | zero=>omega
    | succ k=>exact o k b (by omega) (by simpa using a)
theorem jga:∀ {l:List Xx} {last:Int}, -1<=last->xy last l=false->∀t∈l,0<=t.1/\t.1<=1000
 | [],_,_,_,_,a=>by cases a
 | x::l,last,h0,h,t,a=>by
   simp only[xy,yj,zQ,decide_eq_false_iff_not] at h
   obtain⟨⟨⟨d,c⟩,_⟩,b⟩:=h
   rcases zH.1 a with rfl|a
   ·omega
   ·exact jga (last:=x.1) (by omega) b t a
theorem jha{s:Setup}(a:qo s=true):(∀t∈s.tiers,0<=t.1/\t.1<=1000)/\s.tiers.length<=8:=by
 simp only[qo,wH,zj,Bool.not_eq_true',decide_eq_true_eq] at a
 exact⟨jga (by omega) a.2.2,by have:=a.2.1.2;omega⟩
theorem k3a{s:Setup}{p:qd}(l:qo s=true)(h:rok p=true):(kn s p= -1/\∀t∈s.tiers,¬ t.1*p.2<=100*p.1)∨∃(j:Nat) (t:Xx),s.tiers[j]? =some t/\kn s p=(j:Int)/\t.1*p.2<=100*p.1/\∀k c,j<k->s.tiers[k]? =some c->¬ c.1*p.2<=100*p.1:=by
 have a:=(jha l).1
 have e:kn s p=Zz p (-1) 0 s.tiers:=by unfold kn;rw[l,h];rfl
 rw[e]
 rcases Wq p s.tiers (-1) 0 with⟨g,i⟩|⟨j,t,g,i,m,o⟩
 ·exact .inl ⟨g,λt b q=>by
   have:=(Kh h (a t b).1 (a t b).2).2 q
   rw[i t b] at this;cases this⟩
 ·have b:=qn g
  refine .inr ⟨j,t,g,by rw[i];omega,(Kh h (a t b).1 (a t b).2).1 m,λk c n d q=>?_⟩
  have f:=qn d
  have:=(Kh h (a c f).1 (a c f).2).2 q
  rw[o k c n d] at this;cases this
def vp(f:qd->qd->qd × Int)(a b:qd)(w:Int):qd × Int:=(if w=0 then(f a b).1 else(0,0),if w=0 then(f a b).2 else w)
def Qk:qd->qd->qd × Int:=yi zRa
def jka(a b:qd):qd × Int:=wU [a,b]
def KI(l:List qd)(i:Int):qd:=l.getD i.toNat (0,0)
def jla(l:List Elt)(i:Int):Elt:=l.getD i.toNat ((0,0),(0,0))
def yO(s:Setup)(e:Ev)(a:Int):qd × Int:=
 let b:=vp Qk (a,1) s.pace 0
 let c:=vp Qk b.1 (KI s.gears e.gear) b.2
 let f:=vp Qk (jla s.elements e.element).2 (e.units,1) c.2
 let d:=vp jka (jla s.elements e.element).1 f.1 f.2
 let h:=vp Qk d.1 (KI s.classes e.class_) d.2
 let g:=vp jka c.1 h.1 h.2
 vp Qk g.1 (make (wr (100+s.allow)) 100).1 g.2
def wCa(s:Setup)(e:Ev):Int:=xP (yN s) e.from_.toNat e.to_.toNat
def kF(s:Setup)(e:Ev):qd × Int:=
 if qo s && (ZY s e && e.kind==3) then
  if wCa s e= -1 then((0,0),100) else if(yO s e (wCa s e)).2=0 then((yO s e (wCa s e)).1,0) else((0,0),(yO s e (wCa s e)).2)
 else((0,0),100)
def qQ(z:qd × Int)(v:qd × Int):qd × Int:=if z.2=0 then v else z
def yP(l:List Ev)(g:Seg):Ev:=(l.find? (yM g.id)).getD x6a
def xh(k:Int)(g:Seg):Bool:=g.kind==1 && Qi g.from_==k
def yV:qd->qd->qd × Int:=yi Q7a
def Kj:qd->qd->qd × Int:=yi Zba
structure PerfV where
 earned:qd
 eligible:Int
 perf:qd
 err:Int
def jma(s:Setup)(events:List Ev)(segs:List Seg)(k:Int):PerfV:=
 let f:=segs.filter (xh k)
 let eligible:=f.foldl (λn g=>wr (n+wr (g.to_ - g.from_))) 0
 let goals:=f.map λg=>(kF s (yP events g)).1
 let h:=f.foldl (λz g=>qQ z ((0,1),(kF s (yP events g)).2)) ((0,1),0)
 let d:=qQ h (wU goals)
 let e:=qQ ((0,1),d.2) (make (wr (s.fault*(kV events k:Int))) 1)
 let c:=qQ d e
 let b:=if c.2=0 then qQ c (yV (wU goals).1 e.1) else c
 let a:=if b.2=0/\b.1.1<0 then((0,1),b.2) else b
 let done:=if eligible>0/\a.2=0 then qQ (qQ ((0,1),a.2) (make eligible 1)) (Kj a.1 (make eligible 1).1) else((0,1),a.2)
 if done.2=0 then⟨a.1,eligible,done.1,0⟩ else⟨(0,0),eligible,(0,0),done.2⟩
def vq(s:Setup)(l:List Ev)(w k:Int):PerfV:=
 if qo s then jma s (XJ s w l) (qC s (XJ s w l) w).1 k else⟨(0,1),0,(0,1),0⟩
