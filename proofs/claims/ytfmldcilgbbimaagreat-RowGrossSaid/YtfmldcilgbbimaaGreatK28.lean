/-
  Joined.
-/
import Derived.Test.YtfmldcilgbbimaaGreatK27
import Derived.Test.YtfmldcilgbbimaaGreatK21
import Derived.Test.YtfmldcilgbbimaaGreatK25
set_option linter.unusedSimpArgs false
set_option linter.unusedVariables false
namespace Go.Proofs.YtfmldcilgbbimaaGreat.Ax
open Go Go.Proofs
theorem Vd {p:zx} (h:rok p=true):(0<p.2/\p.2<=2147483647)/\(-2147483647<=p.1/\p.1<=2147483647):=by
 simp only[rok,Bool.and_eq_true,beq_iff_eq] at h
 obtain ⟨c,a,b⟩:=h
 unfold make at c a b
 by_cases e:p.2<=0
 ·rw[if_pos e] at c;simp at c
 ·rw[if_neg e] at c a b
  by_cases f:p.1=0
  ·rw[if_pos f] at a b
   simp only at a b
   omega
  ·rw[if_neg f] at c a b
   split at c
   ·simp at c
   ·rename_i d
    rw[if_neg d] at a b
    simp only at a b
    rw[a,b] at d
    omega
def QHa (L:Nat):Bool:=(make L 100).2==0 && (rok (make L 100).1 && ((make L 100).1.1*100==(L:Int)*(make L 100).1.2 && (decide (0<(make L 100).1.2) && (decide ((make L 100).1.2<=100) && (decide (0<=(make L 100).1.1) && decide ((make L 100).1.1<=1000))))))
theorem wpa:∀L:Nat,L<1001->QHa L=true:=by decide+kernel
theorem QX {p:zx} {t:Qm} (f:rok p=true) (h0:0<=t.1) (u:t.1<=1000):kT p t=true↔t.1*p.2<=100*p.1:=by
 obtain ⟨⟨b1,b2⟩,b3,b4⟩:=Vd f
 obtain ⟨L,d⟩:=Int.eq_ofNat_of_zero_le h0
 have i:=wpa L (by omega)
 simp only[QHa,Bool.and_eq_true,beq_iff_eq,decide_eq_true_eq] at i
 obtain ⟨_,o,k,q,v,l,j⟩:=i
 rw[d]
 unfold kT
 rw[d]
 change (!Xt p (make (L:Int) 100).1)=true↔(L:Int)*p.2<=100*p.1
 generalize (make (L:Int) 100).1=m at*
 have x:p.1*m.2<=2147483647*100:=by
  have:=Int.mul_le_mul_of_nonneg_right (a:=p.1) (b:=2147483647) (c:=m.2) b4 (by omega)
  omega
 have s: -2147483647*100<=p.1*m.2:=by
  have:=Int.mul_le_mul_of_nonneg_right (a:= -2147483647) (b:=p.1) (c:=m.2) b3 (by omega)
  omega
 have r:0<=m.1*p.2:=Int.mul_nonneg l (by omega)
 have w:m.1*p.2<=1000*2147483647:=by
  have:=Int.mul_le_mul j b2 (by omega) (by omega)
  exact this
 unfold Xt
 rw[f,o,zt (n:=p.1*m.2) (by unfold Fit;omega),zt (n:=m.1*p.2) (by unfold Fit;omega)]
 simp only[Bool.true_and,Bool.not_eq_true',decide_eq_false_iff_not,Int.not_lt]
 have g:m.2*((L:Int)*p.2)=100*(m.1*p.2):=by
  rw[<-Int.mul_assoc,Int.mul_comm m.2, <-k,Int.mul_comm m.1 100,Int.mul_assoc]
 have e:m.2*(100*p.1)=100*(p.1*m.2):=by
  rw[<-Int.mul_assoc,Int.mul_comm m.2 100,Int.mul_assoc,Int.mul_comm m.2]
 constructor
 ·intro h
  have:m.2*((L:Int)*p.2)<=m.2*(100*p.1):=by rw[g,e];omega
  exact Int.le_of_mul_le_mul_left this q
 ·intro h
  have:=Int.mul_le_mul_of_nonneg_left h (show 0<=m.2 by omega)
  rw[g,e] at this
  omega
theorem XW (p:zx):∀(l:List Qm) (out i:Int),(wG p out i l=out/\∀t∈l,kT p t=false)∨∃(j:Nat) (t:Qm),l[j]? =some t/\wG p out i l=i+j/\kT p t=true/\∀k b,j<k->l[k]? =some b->kT p b=false
 | [],out,i=> .inl ⟨rfl,λ_ h=>by cases h⟩
 | t::l,out,i=>by
   have e:wG p out i (t::l)=wG p (if kT p t then i else out) (i+1) l:=rfl
   rcases XW p l (if kT p t then i else out) (i+1) with ⟨f,c⟩ | ⟨j,u,f,c,o,m⟩
   ·cases d:kT p t
    ·refine .inl ⟨by rw[e,f,d];rfl,λx g=>?_⟩
     rcases List.mem_cons.1 g with rfl | g
     ·exact d
     ·exact c x g
    ·refine .inr ⟨0,t,rfl,by rw[e,f,d];simp,d,λk b n a=>?_⟩
     cases k with
     | zero=>omega
     | succ k=>exact c b (List.mem_of_getElem? (by simpa using a))
   ·refine .inr ⟨j+1,u,by simpa using f,by rw[e,c];omega,o,λk b n a=>?_⟩
    cases k with
    | zero=>omega
    | succ k=>exact m k b (by omega) (by simpa using a)
theorem Ya:∀ {l:List Qm} {last:Int}, -1<=last->jb last l=false->∀t∈l,0<=t.1/\t.1<=1000
 | [],_,_,_,_,a=>by cases a
 | x::l,last,h0,h,t,a=>by
   simp only[jb,vj,Bool.or_eq_false_iff,decide_eq_false_iff_not] at h
   obtain ⟨⟨⟨d,c⟩,_⟩,b⟩:=h
   rcases List.mem_cons.1 a with rfl | a
   ·omega
   ·exact Ya (last:=x.1) (by omega) b t a
theorem Yb {s:Setup} (a:zz s=true):(∀t∈s.tiers,0<=t.1/\t.1<=1000)/\s.tiers.length<=8:=by
 simp only[zz,kD,Bool.and_eq_true,Bool.not_eq_true',decide_eq_true_eq] at a
 exact ⟨Ya (by omega) a.2.2,by have:=a.2.1.2;omega⟩
theorem wqa {s:Setup} {p:zx} (l:zz s=true) (g:rok p=true):(xk s p= -1/\∀t∈s.tiers,¬ t.1*p.2<=100*p.1)∨∃(j:Nat) (t:Qm),s.tiers[j]? =some t/\xk s p=(j:Int)/\t.1*p.2<=100*p.1/\∀k b,j<k->s.tiers[k]? =some b->¬ b.1*p.2<=100*p.1:=by
 have a:=(Yb l).1
 have e:xk s p=wG p (-1) 0 s.tiers:=by unfold xk;rw[l,g];rfl
 rw[e]
 rcases XW p s.tiers (-1) 0 with ⟨h,i⟩ | ⟨j,t,h,i,o,m⟩
 ·exact .inl ⟨h,λt c q=>by
   have:=(QX g (a t c).1 (a t c).2).2 q
   rw[i t c] at this;cases this⟩
 ·have c:=List.mem_of_getElem? h
  refine .inr ⟨j,t,h,by rw[i];omega,(QX g (a t c).1 (a t c).2).1 o,λk b n d q=>?_⟩
  have f:=List.mem_of_getElem? d
  have:=(QX g (a b f).1 (a b f).2).2 q
  rw[m k b n d] at this;cases this
def xl (f:zx->zx->zx × Int) (a b:zx) (w:Int):zx × Int:=(if w=0 then (f a b).1 else (0,0),if w=0 then (f a b).2 else w)
def yw:zx->zx->zx × Int:=vi VO
def Yd (a b:zx):zx × Int:=kQ [a,b]
def Jr (l:List zx) (i:Int):zx:=l.getD i.toNat (0,0)
def Ye (l:List Elt) (i:Int):Elt:=l.getD i.toNat ((0,0),(0,0))
def vL (s:Setup) (e:Ev) (a:Int):zx × Int:=
 let f:=xl yw (a,1) s.pace 0
 let b:=xl yw f.1 (Jr s.gears e.gear) f.2
 let c:=xl yw (Ye s.elements e.element).2 (e.units,1) b.2
 let d:=xl Yd (Ye s.elements e.element).1 c.1 c.2
 let g:=xl yw d.1 (Jr s.classes e.class_) d.2
 let h:=xl Yd b.1 g.1 g.2
 xl yw h.1 (make (wr (100+s.allow)) 100).1 h.2
def jXa (s:Setup) (e:Ev):Int:=jm (vK s) e.from_.toNat e.to_.toNat
def jJ (s:Setup) (e:Ev):zx × Int:=
 if zz s && (yL s e && e.kind==3) then
  if jXa s e= -1 then ((0,0),100) else if (vL s e (jXa s e)).2=0 then ((vL s e (jXa s e)).1,0) else ((0,0),(vL s e (jXa s e)).2)
 else ((0,0),100)
def zN (z:zx × Int) (v:zx × Int):zx × Int:=if z.2=0 then v else z
def vM (l:List Ev) (g:Seg):Ev:=(l.find? (vJ g.id)).getD zFa
def kU (k:Int) (g:Seg):Bool:=g.kind==1 && yq g.from_==k
def vS:zx->zx->zx × Int:=vi v9a
def QZ:zx->zx->zx × Int:=vi koa
structure PerfV where
 earned:zx
 eligible:Int
 perf:zx
 err:Int
def Yf (s:Setup) (events:List Ev) (segs:List Seg) (k:Int):PerfV:=
 let f:=segs.filter (kU k)
 let eligible:=f.foldl (λn g=>wr (n+wr (g.to_ - g.from_))) 0
 let goals:=f.map λg=>(jJ s (vM events g)).1
 let h:=f.foldl (λz g=>zN z ((0,1),(jJ s (vM events g)).2)) ((0,1),0)
 let d:=zN h (kQ goals)
 let e:=zN ((0,1),d.2) (make (wr (s.fault*(jV events k:Int))) 1)
 let c:=zN d e
 let b:=if c.2=0 then zN c (vS (kQ goals).1 e.1) else c
 let a:=if b.2=0/\b.1.1<0 then ((0,1),b.2) else b
 let done:=if eligible>0/\a.2=0 then zN (zN ((0,1),a.2) (make eligible 1)) (QZ a.1 (make eligible 1).1) else ((0,1),a.2)
 if done.2=0 then ⟨a.1,eligible,done.1,0⟩ else ⟨(0,0),eligible,(0,0),done.2⟩
def wj (s:Setup) (l:List Ev) (w k:Int):PerfV:=
 if zz s then Yf s (JI s w l) (zR s (JI s w l) w).1 k else ⟨(0,1),0,(0,1),0⟩
end Go.Proofs.YtfmldcilgbbimaaGreat.Ax
