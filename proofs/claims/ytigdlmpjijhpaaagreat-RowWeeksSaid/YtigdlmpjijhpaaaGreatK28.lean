/-
  Joined.
-/
import Derived.Test.YtigdlmpjijhpaaaGreatK27
import Derived.Test.YtigdlmpjijhpaaaGreatK21
import Derived.Test.YtigdlmpjijhpaaaGreatK25
set_option linter.unusedSimpArgs false
set_option linter.unusedVariables false
namespace Go.Proofs.YtigdlmpjijhpaaaGreat.Ax
open Go Go.Proofs
theorem Vj {p:zy} (h:rok p=true):(0<p.2/\p.2<=2147483647)/\(-2147483647<=p.1/\p.1<=2147483647):=by
 simp only[rok,Bool.and_eq_true,beq_iff_eq] at h
 obtain ⟨c,b,a⟩:=h
 unfold make at c b a
 by_cases d:p.2<=0
 ·rw[if_pos d] at c;simp at c
 ·rw[if_neg d] at c b a
  by_cases f:p.1=0
  ·rw[if_pos f] at b a
   simp only at b a
   omega
  ·rw[if_neg f] at c b a
   split at c
   ·simp at c
   ·rename_i e
    rw[if_neg e] at b a
    simp only at b a
    rw[b,a] at e
    omega
def Q9a (L:Nat):Bool:=(make L 100).2==0 && (rok (make L 100).1 && ((make L 100).1.1*100==(L:Int)*(make L 100).1.2 && (decide (0<(make L 100).1.2) && (decide ((make L 100).1.2<=100) && (decide (0<=(make L 100).1.1) && decide ((make L 100).1.1<=1000))))))
theorem wKa:∀L:Nat,L<1001->Q9a L=true:=by decide+kernel
theorem Q1 {p:zy} {t:QO} (e:rok p=true) (h0:0<=t.1) (v:t.1<=1000):va p t=true↔t.1*p.2<=100*p.1:=by
 obtain ⟨⟨b1,b2⟩,b3,b4⟩:=Vj e
 obtain ⟨L,d⟩:=Int.eq_ofNat_of_zero_le h0
 have i:=wKa L (by omega)
 simp only[Q9a,Bool.and_eq_true,beq_iff_eq,decide_eq_true_eq] at i
 obtain ⟨_,o,q,l,r,k,j⟩:=i
 rw[d]
 unfold va
 rw[d]
 change (!Xy p (make (L:Int) 100).1)=true↔(L:Int)*p.2<=100*p.1
 generalize (make (L:Int) 100).1=m at*
 have u:p.1*m.2<=2147483647*100:=by
  have:=Int.mul_le_mul_of_nonneg_right (a:=p.1) (b:=2147483647) (c:=m.2) b4 (by omega)
  omega
 have x: -2147483647*100<=p.1*m.2:=by
  have:=Int.mul_le_mul_of_nonneg_right (a:= -2147483647) (b:=p.1) (c:=m.2) b3 (by omega)
  omega
 have w:0<=m.1*p.2:=Int.mul_nonneg k (by omega)
 have s:m.1*p.2<=1000*2147483647:=by
  have:=Int.mul_le_mul j b2 (by omega) (by omega)
  exact this
 unfold Xy
 rw[e,o,zF (n:=p.1*m.2) (by unfold Fit;omega),zF (n:=m.1*p.2) (by unfold Fit;omega)]
 simp only[Bool.true_and,Bool.not_eq_true',decide_eq_false_iff_not,Int.not_lt]
 have g:m.2*((L:Int)*p.2)=100*(m.1*p.2):=by
  rw[<-Int.mul_assoc,Int.mul_comm m.2, <-q,Int.mul_comm m.1 100,Int.mul_assoc]
 have f:m.2*(100*p.1)=100*(p.1*m.2):=by
  rw[<-Int.mul_assoc,Int.mul_comm m.2 100,Int.mul_assoc,Int.mul_comm m.2]
 constructor
 ·intro h
  have:m.2*((L:Int)*p.2)<=m.2*(100*p.1):=by rw[g,f];omega
  exact Int.le_of_mul_le_mul_left this l
 ·intro h
  have:=Int.mul_le_mul_of_nonneg_left h (show 0<=m.2 by omega)
  rw[g,f] at this
  omega
theorem X4 (p:zy):∀(l:List QO) (out i:Int),(wN p out i l=out/\∀t∈l,va p t=false)∨∃(j:Nat) (t:QO),l[j]? =some t/\wN p out i l=i+j/\va p t=true/\∀k b,j<k->l[k]? =some b->va p b=false
 | [],out,i=> .inl ⟨rfl,λ_ h=>by cases h⟩
 | t::l,out,i=>by
   have e:wN p out i (t::l)=wN p (if va p t then i else out) (i+1) l:=rfl
   rcases X4 p l (if va p t then i else out) (i+1) with ⟨d,f⟩ | ⟨j,u,d,f,m,n⟩
   ·cases c:va p t
    ·refine .inl ⟨by rw[e,d,c];rfl,λx g=>?_⟩
     rcases List.mem_cons.1 g with rfl | g
     ·exact c
     ·exact f x g
    ·refine .inr ⟨0,t,rfl,by rw[e,d,c];simp,c,λk b o a=>?_⟩
     cases k with
     | zero=>omega
     | succ k=>exact f b (List.mem_of_getElem? (by simpa using a))
   ·refine .inr ⟨j+1,u,by simpa using d,by rw[e,f];omega,m,λk b o a=>?_⟩
    cases k with
    | zero=>omega
    | succ k=>exact n k b (by omega) (by simpa using a)
theorem Yk:∀ {l:List QO} {last:Int}, -1<=last->jQ last l=false->∀t∈l,0<=t.1/\t.1<=1000
 | [],_,_,_,_,a=>by cases a
 | x::l,last,h0,h,t,a=>by
   simp only[jQ,wq,Bool.or_eq_false_iff,decide_eq_false_iff_not] at h
   obtain ⟨⟨⟨c,d⟩,_⟩,b⟩:=h
   rcases List.mem_cons.1 a with rfl | a
   ·omega
   ·exact Yk (last:=x.1) (by omega) b t a
theorem Yl {s:Setup} (a:zE s=true):(∀t∈s.tiers,0<=t.1/\t.1<=1000)/\s.tiers.length<=8:=by
 simp only[zE,vp,Bool.and_eq_true,Bool.not_eq_true',decide_eq_true_eq] at a
 exact ⟨Yk (by omega) a.2.2,by have:=a.2.1.2;omega⟩
theorem wLa {s:Setup} {p:zy} (l:zE s=true) (g:rok p=true):(xr s p= -1/\∀t∈s.tiers,¬ t.1*p.2<=100*p.1)∨∃(j:Nat) (t:QO),s.tiers[j]? =some t/\xr s p=(j:Int)/\t.1*p.2<=100*p.1/\∀k c,j<k->s.tiers[k]? =some c->¬ c.1*p.2<=100*p.1:=by
 have a:=(Yl l).1
 have e:xr s p=wN p (-1) 0 s.tiers:=by unfold xr;rw[l,g];rfl
 rw[e]
 rcases X4 p s.tiers (-1) 0 with ⟨h,i⟩ | ⟨j,t,h,i,m,n⟩
 ·exact .inl ⟨h,λt b q=>by
   have:=(Q1 g (a t b).1 (a t b).2).2 q
   rw[i t b] at this;cases this⟩
 ·have b:=List.mem_of_getElem? h
  refine .inr ⟨j,t,h,by rw[i];omega,(Q1 g (a t b).1 (a t b).2).1 m,λk c o f q=>?_⟩
  have d:=List.mem_of_getElem? f
  have:=(Q1 g (a c d).1 (a c d).2).2 q
  rw[n k c o f] at this;cases this
def xN (f:zy->zy->zy × Int) (a b:zy) (w:Int):zy × Int:=(if w=0 then (f a b).1 else (0,0),if w=0 then (f a b).2 else w)
def yC:zy->zy->zy × Int:=vZ wva
def Yn (a b:zy):zy × Int:=vJ [a,b]
def Jx (l:List zy) (i:Int):zy:=l.getD i.toNat (0,0)
def Yo (l:List Elt) (i:Int):Elt:=l.getD i.toNat ((0,0),(0,0))
def wy (s:Setup) (e:Ev) (a:Int):zy × Int:=
 let g:=xN yC (a,1) s.pace 0
 let c:=xN yC g.1 (Jx s.gears e.gear) g.2
 let f:=xN yC (Yo s.elements e.element).2 (e.units,1) c.2
 let d:=xN Yn (Yo s.elements e.element).1 f.1 f.2
 let h:=xN yC d.1 (Jx s.classes e.class_) d.2
 let b:=xN Yn c.1 h.1 h.2
 xN yC b.1 (make (wr (100+s.allow)) 100).1 b.2
def xea (s:Setup) (e:Ev):Int:=js (vS s) e.from_.toNat e.to_.toNat
def xu (s:Setup) (e:Ev):zy × Int:=
 if zE s && (yR s e && e.kind==3) then
  if xea s e= -1 then ((0,0),100) else if (wy s e (xea s e)).2=0 then ((wy s e (xea s e)).1,0) else ((0,0),(wy s e (xea s e)).2)
 else ((0,0),100)
def zU (z:zy × Int) (v:zy × Int):zy × Int:=if z.2=0 then v else z
def wz (l:List Ev) (g:Seg):Ev:=(l.find? (vR g.id)).getD zWa
def vb (k:Int) (g:Seg):Bool:=g.kind==1 && kQ g.from_==k
def wc:zy->zy->zy × Int:=vZ wua
def Q3:zy->zy->zy × Int:=vZ kHa
structure PerfV where
 earned:zy
 eligible:Int
 perf:zy
 err:Int
def k7a (s:Setup) (events:List Ev) (segs:List Seg) (k:Int):PerfV:=
 let f:=segs.filter (vb k)
 let eligible:=f.foldl (λn g=>wr (n+wr (g.to_ - g.from_))) 0
 let goals:=f.map λg=>(xu s (wz events g)).1
 let h:=f.foldl (λz g=>zU z ((0,1),(xu s (wz events g)).2)) ((0,1),0)
 let e:=zU h (vJ goals)
 let d:=zU ((0,1),e.2) (make (wr (s.fault*(j6 events k:Int))) 1)
 let c:=zU e d
 let b:=if c.2=0 then zU c (wc (vJ goals).1 d.1) else c
 let a:=if b.2=0/\b.1.1<0 then ((0,1),b.2) else b
 let done:=if eligible>0/\a.2=0 then zU (zU ((0,1),a.2) (make eligible 1)) (Q3 a.1 (make eligible 1).1) else ((0,1),a.2)
 if done.2=0 then ⟨a.1,eligible,done.1,0⟩ else ⟨(0,0),eligible,(0,0),done.2⟩
def yz (s:Setup) (l:List Ev) (w k:Int):PerfV:=
 if zE s then k7a s (JP s w l) (zR s (JP s w l) w).1 k else ⟨(0,1),0,(0,1),0⟩
end Go.Proofs.YtigdlmpjijhpaaaGreat.Ax
