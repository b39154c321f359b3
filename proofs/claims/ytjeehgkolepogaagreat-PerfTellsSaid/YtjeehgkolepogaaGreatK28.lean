import Derived.Test.YtjeehgkolepogaaGreatK27
set_option linter.all false
namespace Go.Proofs.YtjeehgkolepogaaGreat.Ax
open Go Go.Proofs
def Kb{p:zL}(h:rok p=true):(0<p.2/\p.2<=2147483647)/\(-2147483647<=p.1/\p.1<=2147483647):=by
 simp only[rok,zi,beq_iff_eq] at h;obtain⟨c,b,a⟩:=h;unfold make at c b a;by_cases d:p.2<=0
 ·rw[if_pos d] at c;simp at c
 ·rw[if_neg d] at c b a;by_cases f:p.1=0
  ·rw[if_pos f] at b a;simp only at b a;omega
  ·rw[if_neg f] at c b a;split at c
   ·simp at c
   ·rename_i e;rw[if_neg e] at b a;simp only at b a;rw[b,a] at e;omega
def wJa(L:Nat):Bool:=(make L 100).2==0 && (rok (make L 100).1 && ((make L 100).1.1*100==(L:Int)*(make L 100).1.2 && (decide (0<(make L 100).1.2) && (decide ((make L 100).1.2<=100) && (decide (0<=(make L 100).1.1) && decide ((make L 100).1.1<=1000))))))
def kpa:∀L:Nat,L<1001->wJa L=true:=by decide+kernel
def qpa{p:zL}{t:yH}(e:rok p=true)(h0:0<=t.1)(u:t.1<=1000):QA p t=true↔t.1*p.2<=100*p.1:=by
 obtain⟨⟨b1,b2⟩,b3,b4⟩:=Kb e;obtain⟨L,d⟩:=Int.eq_ofNat_of_zero_le h0;have g:=kpa L zb;simp only[wJa,zi,beq_iff_eq,decide_eq_true_eq] at g;obtain⟨_,l,q,o,r,j,k⟩:=g;rw[d];unfold QA;rw[d];change (!JR p (make (L:Int) 100).1)=true↔(L:Int)*p.2<=100*p.1;generalize (make (L:Int) 100).1=m at*
 have v:p.1*m.2<=2147483647*100:=by
  have:=Int.mul_le_mul_of_nonneg_right (a:=p.1) (b:=2147483647) (c:=m.2) b4 zb;omega
 have s: -2147483647*100<=p.1*m.2:=by
  have:=Int.mul_le_mul_of_nonneg_right (a:= -2147483647) (b:=p.1) (c:=m.2) b3 zb;omega
 have w:0<=m.1*p.2:=Int.mul_nonneg j zb
 have x:m.1*p.2<=1000*2147483647:=by
  have:=Int.mul_le_mul k b2 zb zb;exact this
 unfold JR;rw[e,l,qb (n:=p.1*m.2) qg,qb (n:=m.1*p.2) qg];simp only[Bool.true_and,Bool.not_eq_true',decide_eq_false_iff_not,Int.not_lt]
 have i:m.2*((L:Int)*p.2)=100*(m.1*p.2):=by
  rw[<-Int.mul_assoc,Int.mul_comm m.2, <-q,Int.mul_comm m.1 100,Int.mul_assoc]
 have f:m.2*(100*p.1)=100*(p.1*m.2):=by
  rw[<-Int.mul_assoc,Int.mul_comm m.2 100,Int.mul_assoc,Int.mul_comm m.2]
 constructor
 ·intro h;have:m.2*((L:Int)*p.2)<=m.2*(100*p.1):=by rw[i,f];omega
  exact Int.le_of_mul_le_mul_left this o
 ·intro h;have:=Int.mul_le_mul_of_nonneg_left h (show 0<=m.2 by omega);rw[i,f] at this;omega
def V7:∀ {l:List yH} {last:Int}, -1<=last->jJ last l=false->∀t∈l,0<=t.1/\t.1<=1000
 | [],_,_,_,_,a=>by cases a
 | x::l,last,h0,h,t,a=>by
   simp only[jJ,vA,zU,decide_eq_false_iff_not] at h;obtain⟨⟨⟨c,d⟩,_⟩,b⟩:=h;rcases zK.1 a with rfl|a
   ·omega
   ·exact V7 (last:=x.1) zb b t a
def V8{s:Setup}(a:zX s=true):(∀t∈s.tiers,0<=t.1/\t.1<=1000)/\s.tiers.length<=8:=by
 simp only[zX,kQ,zi,Bool.not_eq_true',decide_eq_true_eq] at a;exact⟨V7 zb a.2.2,by have:=a.2.1.2;omega⟩
def kp(f:zL->zL->zL × Int)(a b:zL)(w:Int):zL × Int:=(if w=0 then(f a b).1 else(0,0),if w=0 then(f a b).2 else w)
def jG:zL->zL->zL × Int:=kA XE
def K3(a b:zL):zL × Int:=jB [a,b]
def kh(l:List zL)(i:Int):zL:=l.getD i.toNat (0,0)
def vb(l:List Elt)(i:Int):Elt:=l.getD i.toNat ((0,0),(0,0))
def wx(s:Setup)(e:Ev)(a:Int):zL × Int:=
 let h:=kp jG (a,1) s.pace 0;let c:=kp jG h.1 (kh s.gears e.gear) h.2;let g:=kp jG (vb s.elements e.element).2 (e.units,1) c.2;let d:=kp K3 (vb s.elements e.element).1 g.1 g.2;let f:=kp jG d.1 (kh s.classes e.class_) d.2;let b:=kp K3 c.1 f.1 f.2
 kp jG b.1 (make (wr (100+s.allow)) 100).1 b.2
def ZQ(s:Setup)(e:Ev):Int:=qm (xH s) e.from_.toNat e.to_.toNat
def jQ(s:Setup)(e:Ev):zL × Int:=
 if zX s && (km s e && e.kind==3) then
  if ZQ s e= -1 then((0,0),100) else if(wx s e (ZQ s e)).2=0 then((wx s e (ZQ s e)).1,0) else((0,0),(wx s e (ZQ s e)).2)
 else((0,0),100)
def jg(z:zL × Int)(v:zL × Int):zL × Int:=if z.2=0 then v else z
def vq(l:List Ev)(g:Seg):Ev:=(l.find? (vP g.id)).getD wQ
def qn(k:Int)(g:Seg):Bool:=g.kind==1 && kT g.from_==k
def vr:zL->zL->zL × Int:=kA Zr
def wy:zL->zL->zL × Int:=kA jEa
structure PerfV where
 earned:zL
 eligible:Int
 perf:zL
 err:Int
def jXa(s:Setup)(events:List Ev)(segs:List Seg)(k:Int):PerfV:=
 let f:=segs.filter (qn k);let eligible:=f.foldl (λn g=>wr (n+wr (g.to_ - g.from_))) 0;let goals:=f.map λg=>(jQ s (vq events g)).1;let h:=f.foldl (λz g=>jg z ((0,1),(jQ s (vq events g)).2)) ((0,1),0);let d:=jg h (jB goals);let e:=jg ((0,1),d.2) (make (wr (s.fault*(xN events k:Int))) 1);let c:=jg d e;let b:=if c.2=0 then jg c (vr (jB goals).1 e.1) else c;let a:=if b.2=0/\b.1.1<0 then((0,1),b.2) else b;let done:=if eligible>0/\a.2=0 then jg (jg ((0,1),a.2) (make eligible 1)) (wy a.1 (make eligible 1).1) else((0,1),a.2)
 if done.2=0 then⟨a.1,eligible,done.1,0⟩ else⟨(0,0),eligible,(0,0),done.2⟩
def y0(s:Setup)(l:List Ev)(w k:Int):PerfV:=
 if zX s then jXa s (yZ s w l) (qq s (yZ s w l) w).1 k else⟨(0,1),0,(0,1),0⟩
