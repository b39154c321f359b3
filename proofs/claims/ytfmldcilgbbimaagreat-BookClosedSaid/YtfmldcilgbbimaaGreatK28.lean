/-
  Joined.
-/
import Derived.Test.YtfmldcilgbbimaaGreatK27
import Derived.Test.YtfmldcilgbbimaaGreatK21
import Derived.Test.YtfmldcilgbbimaaGreatK25
set_option linter.unusedSimpArgs false
set_option linter.unusedVariables false
namespace Go.Proofs.YtfmldcilgbbimaaGreat.Ax
open Go Go.Proofs
theorem YN {p:zF} (h:rok p=true):(0<p.2/\p.2<=2147483647)/\(-2147483647<=p.1/\p.1<=2147483647):=by
 simp only[rok,Bool.and_eq_true,beq_iff_eq] at h
 obtain ⟨c,a,b⟩:=h
 unfold make at c a b
 by_cases d:p.2<=0
 ·rw[if_pos d] at c;simp at c
 ·rw[if_neg d] at c a b
  by_cases e:p.1=0
  ·rw[if_pos e] at a b
   simp only at a b
   omega
  ·rw[if_neg e] at c a b
   split at c
   ·simp at c
   ·rename_i f
    rw[if_neg f] at a b
    simp only at a b
    rw[a,b] at f
    omega
def Wza (L:Nat):Bool:=(make L 100).2==0 && (rok (make L 100).1 && ((make L 100).1.1*100==(L:Int)*(make L 100).1.2 && (decide (0<(make L 100).1.2) && (decide ((make L 100).1.2<=100) && (decide (0<=(make L 100).1.1) && decide ((make L 100).1.1<=1000))))))
theorem Jxa:∀L:Nat,L<1001->Wza L=true:=by decide+kernel
theorem XW {p:zF} {t:XI} (i:rok p=true) (h0:0<=t.1) (s:t.1<=1000):wi p t=true↔t.1*p.2<=100*p.1:=by
 obtain ⟨⟨b1,b2⟩,b3,b4⟩:=YN i
 obtain ⟨L,f⟩:=Int.eq_ofNat_of_zero_le h0
 have d:=Jxa L (by omega)
 simp only[Wza,Bool.and_eq_true,beq_iff_eq,decide_eq_true_eq] at d
 obtain ⟨_,k,l,o,x,q,j⟩:=d
 rw[f]
 unfold wi
 rw[f]
 change (!VJ p (make (L:Int) 100).1)=true↔(L:Int)*p.2<=100*p.1
 generalize (make (L:Int) 100).1=m at*
 have w:p.1*m.2<=2147483647*100:=by
  have:=Int.mul_le_mul_of_nonneg_right (a:=p.1) (b:=2147483647) (c:=m.2) b4 (by omega)
  omega
 have r: -2147483647*100<=p.1*m.2:=by
  have:=Int.mul_le_mul_of_nonneg_right (a:= -2147483647) (b:=p.1) (c:=m.2) b3 (by omega)
  omega
 have v:0<=m.1*p.2:=Int.mul_nonneg q (by omega)
 have u:m.1*p.2<=1000*2147483647:=by
  have:=Int.mul_le_mul j b2 (by omega) (by omega)
  exact this
 unfold VJ
 rw[i,k,zI (n:=p.1*m.2) (by unfold Fit;omega),zI (n:=m.1*p.2) (by unfold Fit;omega)]
 simp only[Bool.true_and,Bool.not_eq_true',decide_eq_false_iff_not,Int.not_lt]
 have g:m.2*((L:Int)*p.2)=100*(m.1*p.2):=by
  rw[<-Int.mul_assoc,Int.mul_comm m.2, <-l,Int.mul_comm m.1 100,Int.mul_assoc]
 have e:m.2*(100*p.1)=100*(p.1*m.2):=by
  rw[<-Int.mul_assoc,Int.mul_comm m.2 100,Int.mul_assoc,Int.mul_comm m.2]
 constructor
 ·intro h
  have:m.2*((L:Int)*p.2)<=m.2*(100*p.1):=by rw[g,e];omega
  exact Int.le_of_mul_le_mul_left this o
 ·intro h
  have:=Int.mul_le_mul_of_nonneg_left h (show 0<=m.2 by omega)
  rw[g,e] at this
  omega
theorem Wi (p:zF):∀(l:List XI) (out i:Int),(yS p out i l=out/\∀t∈l,wi p t=false)∨∃(j:Nat) (t:XI),l[j]? =some t/\yS p out i l=i+j/\wi p t=true/\∀k b,j<k->l[k]? =some b->wi p b=false
 | [],out,i=> .inl ⟨rfl,λ_ h=>by cases h⟩
 | t::l,out,i=>by
   have e:yS p out i (t::l)=yS p (if wi p t then i else out) (i+1) l:=rfl
   rcases Wi p l (if wi p t then i else out) (i+1) with ⟨d,c⟩ | ⟨j,u,d,c,o,m⟩
   ·cases f:wi p t
    ·refine .inl ⟨by rw[e,d,f];rfl,λx g=>?_⟩
     rcases List.mem_cons.1 g with rfl | g
     ·exact f
     ·exact c x g
    ·refine .inr ⟨0,t,rfl,by rw[e,d,f];simp,f,λk b n a=>?_⟩
     cases k with
     | zero=>omega
     | succ k=>exact c b (List.mem_of_getElem? (by simpa using a))
   ·refine .inr ⟨j+1,u,by simpa using d,by rw[e,c];omega,o,λk b n a=>?_⟩
    cases k with
    | zero=>omega
    | succ k=>exact m k b (by omega) (by simpa using a)
theorem q6a:∀ {l:List XI} {last:Int}, -1<=last->xu last l=false->∀t∈l,0<=t.1/\t.1<=1000
 | [],_,_,_,_,a=>by cases a
 | x::l,last,h0,h,t,a=>by
   simp only[xu,yn,Bool.or_eq_false_iff,decide_eq_false_iff_not] at h
   obtain ⟨⟨⟨c,d⟩,_⟩,b⟩:=h
   rcases List.mem_cons.1 a with rfl | a
   ·omega
   ·exact q6a (last:=x.1) (by omega) b t a
theorem q7a {s:Setup} (a:zw s=true):(∀t∈s.tiers,0<=t.1/\t.1<=1000)/\s.tiers.length<=8:=by
 simp only[zw,vK,Bool.and_eq_true,Bool.not_eq_true',decide_eq_true_eq] at a
 exact ⟨q6a (by omega) a.2.2,by have:=a.2.1.2;omega⟩
theorem Jya {s:Setup} {p:zF} (l:zw s=true) (h:rok p=true):(ku s p= -1/\∀t∈s.tiers,¬ t.1*p.2<=100*p.1)∨∃(j:Nat) (t:XI),s.tiers[j]? =some t/\ku s p=(j:Int)/\t.1*p.2<=100*p.1/\∀k c,j<k->s.tiers[k]? =some c->¬ c.1*p.2<=100*p.1:=by
 have a:=(q7a l).1
 have e:ku s p=yS p (-1) 0 s.tiers:=by unfold ku;rw[l,h];rfl
 rw[e]
 rcases Wi p s.tiers (-1) 0 with ⟨g,i⟩ | ⟨j,t,g,i,o,m⟩
 ·exact .inl ⟨g,λt b q=>by
   have:=(XW h (a t b).1 (a t b).2).2 q
   rw[i t b] at this;cases this⟩
 ·have b:=List.mem_of_getElem? g
  refine .inr ⟨j,t,g,by rw[i];omega,(XW h (a t b).1 (a t b).2).1 o,λk c n f q=>?_⟩
  have d:=List.mem_of_getElem? f
  have:=(XW h (a c d).1 (a c d).2).2 q
  rw[m k c n f] at this;cases this
def kP (f:zF->zF->zF × Int) (a b:zF) (w:Int):zF × Int:=(if w=0 then (f a b).1 else (0,0),if w=0 then (f a b).2 else w)
def ZO:zF->zF->zF × Int:=w8 Jfa
def q9a (a b:zF):zF × Int:=wI [a,b]
def KC (l:List zF) (i:Int):zF:=l.getD i.toNat (0,0)
def jaa (l:List Elt) (i:Int):Elt:=l.getD i.toNat ((0,0),(0,0))
def yz (s:Setup) (e:Ev) (a:Int):zF × Int:=
 let h:=kP ZO (a,1) s.pace 0
 let f:=kP ZO h.1 (KC s.gears e.gear) h.2
 let c:=kP ZO (jaa s.elements e.element).2 (e.units,1) f.2
 let b:=kP q9a (jaa s.elements e.element).1 c.1 c.2
 let g:=kP ZO b.1 (KC s.classes e.class_) b.2
 let d:=kP q9a f.1 g.1 g.2
 kP ZO d.1 (make (wr (100+s.allow)) 100).1 d.2
def wxa (s:Setup) (e:Ev):Int:=jL (wQ s) e.from_.toNat e.to_.toNat
def jM (s:Setup) (e:Ev):zF × Int:=
 if zw s && (ko s e && e.kind==3) then
  if wxa s e= -1 then ((0,0),100) else if (yz s e (wxa s e)).2=0 then ((yz s e (wxa s e)).1,0) else ((0,0),(yz s e (wxa s e)).2)
 else ((0,0),100)
def qa (z:zF × Int) (v:zF × Int):zF × Int:=if z.2=0 then v else z
def xm (l:List Ev) (g:Seg):Ev:=(l.find? (wh g.id)).getD xXa
def jx (k:Int) (g:Seg):Bool:=g.kind==1 && jX g.from_==k
def w9:zF->zF->zF × Int:=w8 Jea
def XY:zF->zF->zF × Int:=w8 Zda
structure PerfV where
 earned:zF
 eligible:Int
 perf:zF
 err:Int
def YO (s:Setup) (events:List Ev) (segs:List Seg) (k:Int):PerfV:=
 let f:=segs.filter (jx k)
 let eligible:=f.foldl (λn g=>wr (n+wr (g.to_ - g.from_))) 0
 let goals:=f.map λg=>(jM s (xm events g)).1
 let h:=f.foldl (λz g=>qa z ((0,1),(jM s (xm events g)).2)) ((0,1),0)
 let e:=qa h (wI goals)
 let d:=qa ((0,1),e.2) (make (wr (s.fault*(jB events k:Int))) 1)
 let c:=qa e d
 let b:=if c.2=0 then qa c (w9 (wI goals).1 d.1) else c
 let a:=if b.2=0/\b.1.1<0 then ((0,1),b.2) else b
 let done:=if eligible>0/\a.2=0 then qa (qa ((0,1),a.2) (make eligible 1)) (XY a.1 (make eligible 1).1) else ((0,1),a.2)
 if done.2=0 then ⟨a.1,eligible,done.1,0⟩ else ⟨(0,0),eligible,(0,0),done.2⟩
def wR (s:Setup) (l:List Ev) (w k:Int):PerfV:=
 if zw s then YO s (Xl s w l) (zM s (Xl s w l) w).1 k else ⟨(0,1),0,(0,1),0⟩
end Go.Proofs.YtfmldcilgbbimaaGreat.Ax
