import Derived.Test.YtjeehgkolepogaaGreatK11
import Derived.IntWalk
set_option linter.all false
namespace Go.Proofs.YtjeehgkolepogaaGreat.Ax
open Go Go.Proofs
set_option maxRecDepth 100000
attribute [go_sem] ty3 ty4 xSa vha vja
abbrev i64(n:Int):AV:= .v (.int .i64 n)
abbrev bl(b:Bool):AV:= .v (.bool b)
abbrev k5a(n d:Int):AV:= .ag [i64 n,i64 d]
abbrev wr(n:Int):Int:=IntKind.wrap .i64 n
def c52:js Tryz.prog 70 [] (k5a 0 1):=λh=>by
 refine enterSX Tryz.f70 λB=>?_;exact qt
def yQ(n:Int):Int:=if n= -9223372036854775808 then 4611686018427387904 else if n<0 then wr (0 - n) else n
def c84(n:Int):js Tryz.prog 116 [i64 n] (i64 (yQ n)):=λh=>by
 refine enterSX Tryz.f116 λB=>?_;refine ways (λe=>?_) (λe=>?_)
 ·simp only[beq_iff_eq] at e;exact zm (by simp only[go_sem,yQ,e]<;>try rfl)
 ·simp only[beq_eq_false_iff_ne,ne_eq] at e;refine zz ?_;refine ways (λa=>?_) (λa=>?_)
  ·simp only[decide_eq_true_eq] at a;refine zz ?_;exact zm (by simp only[go_sem,yQ,e,a]<;>try rfl)
  ·simp only[decide_eq_false_iff_not] at a;refine zz ?_;exact zm (by simp only[go_sem,yQ,e,a]<;>try rfl)
def Fit(n:Int):Prop:= -9223372036854775808<=n/\n<=9223372036854775807
def qb{n:Int}(h:Fit n):wr n=n:=Go.IntWalk.i64_in n h
def YX{n:Int}(h:Fit n):0<=yQ n:=by
 unfold yQ;split
 ·omega
 ·split
  ·rw[qb (by unfold Fit at *; omega)];omega
  ·omega
def Q8(a b:Int):Int:=(Nat.gcd (yQ a).toNat (yQ b).toNat:Int)
def c53(a b:Int)(i:Fit a)(g:Fit b):js Tryz.prog 72 [i64 a,i64 b] (i64 (Q8 a b)):=λh=>by
 refine enterSX Tryz.f72 λB=>?_;refine zl (c84 a h) ?_;rintro _ _ ⟨rfl,rfl⟩;refine zz ?_;refine zl (c84 b _) ?_;rintro _ _ ⟨rfl,rfl⟩;refine zz ?_;rename_i h;refine wp_loop_a ze (λn T h'=>h'=h/\∃x y:Nat,T 0=i64 x/\T 1=i64 y/\Nat.gcd x y=Nat.gcd (yQ a).toNat (yQ b).toNat/\y=n) _ ⟨rfl,(yQ a).toNat,(yQ b).toNat,?_,?_,rfl,rfl⟩ ?_
 ·simp only[go_sem,Int.toNat_of_nonneg (YX i)]
 ·simp only[go_sem,Int.toNat_of_nonneg (YX g)]
 rintro n T h ⟨rfl,x,y,h0,f,d,rfl⟩;simp only[go_sem,h0,f];refine ways (λe=>?_) (λe=>?_)
 ·refine zz ?_;have hyp:0<y:=by simpa using e
  have c:¬ (y:Int)=0:=zb;refine zZ [] 0 (oF [0,1,2,3,4,5] ([])) ?_;simp only[go_sem,h0,f,c];refine⟨x % y,Nat.mod_lt _ hyp,y,x % y,rfl,by rw[Int.ofNat_tmod],?_,rfl⟩;rw[<-d,Nat.gcd_comm y, <-Nat.gcd_rec,Nat.gcd_comm]
 ·refine zz ?_;have c:y=0:=by simpa using e
  subst c;rw[Nat.gcd_zero_right] at d;simp only[go_sem,h0];exact zm (by simp only[go_sem,Q8,h0,d]<;>try rfl)
def jDa{a b:Int}(c:Fit b)(h:0<b):0<Q8 a b:=by
 have:yQ b=b:=by
  unfold yQ;split
  ·omega
  ·split<;>omega
 unfold Q8;rw[this];have:=Nat.gcd_pos_of_pos_right (yQ a).toNat (show 0<b.toNat by omega);omega
abbrev zL:=Int × Int
abbrev rat(p:zL):AV:=k5a p.1 p.2
def make(n d:Int):zL × Int:=
 if d<=0 then((0,0),20) else if n=0 then((0,1),0) else
  if wr (n.tdiv (Q8 n d))>2147483647∨wr (n.tdiv (Q8 n d))< -2147483647∨wr (d.tdiv (Q8 n d))>2147483647 then((0,0),10) else((wr (n.tdiv (Q8 n d)),wr (d.tdiv (Q8 n d))),0)
abbrev vU(p:zL × Int):AV:= .tup [rat p.1,i64 p.2]
def c18(n d:Int)(j:Fit n)(i:Fit d):js Tryz.prog 33 [i64 n,i64 d] (vU (make n d)):=λh=>by
 refine enterSX Tryz.f33 λB=>?_;refine ways (λe=>?_) (λe=>?_)
 ·simp only[decide_eq_true_eq] at e;refine zz ?_;exact zm (by simp only[go_sem,make,e]<;>try rfl)
 simp only[decide_eq_false_iff_not] at e;refine zz ?_;refine ways (λf=>?_) (λf=>?_)
 ·simp only[beq_iff_eq] at f;refine zz ?_;refine qI (c52 _) ?_;exact zm (by simp only[go_sem,make,e,f]<;>try rfl)
 simp only[beq_eq_false_iff_ne,ne_eq] at f;refine zz ?_;refine qI (c53 n d j i _) ?_;refine zZ [] 0 (oF [0,1,2,3,4,5,6,7] ([])) ?_;have k:¬ Q8 n d=0:=by have:=jDa (a:=n) i zb;omega
 simp only[go_sem,k];refine ways (λb=>?_) (λb=>?_)
 ·have b:=jv b;simp only[go_sem,b];refine ways (λc=>?_) (λc=>?_)
  ·have c:=jv c;simp only[go_sem,c];refine ways (λg=>?_) (λg=>?_)
   ·refine zz ?_;simp only[decide_eq_true_eq,decide_eq_false_iff_not] at b c g;exact zm (by simp only[go_sem,make,e,f,b,c,g,or_true]<;>try rfl)
   ·refine zz ?_;simp only[decide_eq_true_eq,decide_eq_false_iff_not] at b c g;exact zm (by simp only[go_sem,make,e,f,b,c,g,or_self]<;>try rfl)
  ·have c:=ju c;simp only[go_sem,c];simp only[decide_eq_true_eq,decide_eq_false_iff_not] at b c;exact zm (by simp only[go_sem,make,e,f,b,c,true_or,or_true]<;>try rfl)
 ·have b:=ju b;simp only[go_sem,b];simp only[decide_eq_true_eq] at b;exact zm (by simp only[go_sem,make,e,f,b,true_or]<;>try rfl)
def rok(p:zL):Bool:=(make p.1 p.2).2==0 && ((make p.1 p.2).1.1==p.1 && (make p.1 p.2).1.2==p.2)
def c27(p:zL)(a:Fit p.1)(b:Fit p.2):js Tryz.prog 43 [rat p] (bl (rok p)):=λh=>by
 refine enterSX Tryz.f43 λB=>?_;refine qI (c18 p.1 p.2 a b _) ?_;refine ways (λe=>?_) (λe=>?_)
 ·have e:=qZ e;simp only[go_sem,e];exact zm (by simp only[go_sem,rok,e]<;>try rfl)
 ·have e:=qY e;simp only[go_sem,e];exact zm (by simp only[go_sem,rok,e]<;>try rfl)
def kz(n:Int):Fit (wr n):=by
 unfold Fit wr;rw[IntKind.wrap_i64];omega
def qp(p:zL):Prop:=Fit p.1/\Fit p.2
def Two(f:FuncId)(v:zL->zL->Int × Int):Prop:=∀(h:List Ob) (i j:Nat) (a b:zL),h[i]? =some (.box 24 [i64 a.1,i64 a.2])->h[j]? =some (.box 24 [i64 b.1,i64 b.2])->
 ACalls Tryz.prog f [.ptr i 0,.ptr j 0] h λr h'=>r= .tup [i64 (v a b).1,i64 (v a b).2]/\h'=h
def c55:Two 74 λa b=>(wr (wr (a.1*b.2) - wr (b.1*a.2)),wr (a.2*b.2)):=λh i j a b hi c=>by
 refine enterSX Tryz.f74 λB=>?_;refine zZ [] 0 (oF [0,2,5,7,11,13,1,3,4,6,8,9,10,16,12,14,15,17] ([])) ?_;simp only[go_sem,hi,c];exact qt
def c92:Two 115 λa b=>(wr (wr (a.1*b.2)+wr (b.1*a.2)),wr (a.2*b.2)):=λh i j a b hi c=>by
 refine enterSX Tryz.f115 λB=>?_;refine zZ [] 0 (oF [0,2,5,7,11,13,1,3,4,6,8,9,10,16,12,14,15,17] ([])) ?_;simp only[go_sem,hi,c];exact qt
def c64:Two 114 λa b=>(wr (a.1*b.1),wr (a.2*b.2)):=λh i j a b hi c=>by
 refine enterSX Tryz.f114 λB=>?_;refine zZ [] 0 (oF [0,2,5,7,1,3,4,10,6,8,9,11] ([])) ?_;simp only[go_sem,hi,c];exact qt
def c75:Two 75 λa b=>(wr (a.1*b.2),wr (a.2*b.1)):=λh i j a b hi c=>by
 refine enterSX Tryz.f75 λB=>?_;refine zZ [] 0 (oF [0,2,5,7,1,3,4,10,6,8,9,11] ([])) ?_;simp only[go_sem,hi,c];exact qt
def kA(v:zL->zL->Int × Int)(a b:zL):zL × Int:=if(rok a && rok b)=true then make (v a b).1 (v a b).2 else((0,0),20)
def c54(h:List Ob)(a b:zL)(j:qp a)(g:qp b)(f:FuncId)(i:List AV)(n d:Int)(m:Fit n)(k:Fit d)(l:∀L,ACalls Tryz.prog f i (h++L) λr h'=>r= .tup [i64 n,i64 d]/\h'=h++L):
    ACalls Tryz.prog 73 [rat a,rat b,.fn (.func f) [] i] h λr h'=>r=vU (if(rok a && rok b)=true then make n d else((0,0),20))/\h'=h:=by
 refine enterSX Tryz.f73 λB=>?_;refine qI (c27 a j.1 j.2 _) ?_;refine ways (λe=>?_) (λe=>?_)
 ·have e:=jv e;simp only[Bool.not_eq_false'] at e;simp only[go_sem,e];refine qx (c27 b g.1 g.2 _) ?_;simp only[go_sem,e];refine ways (λc=>?_) (λc=>?_)
  ·simp only[Bool.not_eq_true'] at c;simp only[go_sem,e,c];exact zm (by simp only[go_sem,e,c]<;>try rfl)
  ·simp only[Bool.not_eq_false'] at c;simp only[go_sem,e,c];refine qI (l _) ?_;refine qI (c18 n d m k _) ?_;exact zm (by simp only[go_sem,e,c]<;>try rfl)
 ·have e:=ju e;simp only[Bool.not_eq_true'] at e;simp only[go_sem,e];exact zm (by simp only[go_sem,e]<;>try rfl)
def twoC{f:FuncId}{v:zL->zL->Int × Int}(d:Two f v)(c:∀a b,Fit (v a b).1/\Fit (v a b).2){h:List Ob}(a b:zL)(g:qp a)(e:qp b)(i j:Nat)(hi:h[i]? =some (.box 24 [i64 a.1,i64 a.2]))(k:h[j]? =some (.box 24 [i64 b.1,i64 b.2])):
    ACalls Tryz.prog 73 [rat a,rat b,.fn (.func f) [] [.ptr i 0,.ptr j 0]] h λr h'=>r=vU (kA v a b)/\h'=h:=
 c54 h a b g e f _ _ _ (c a b).1 (c a b).2 λL=>d _ i j a b (zk hi) (zk k)
abbrev Zr(a b:zL):Int × Int:=(wr (wr (a.1*b.2) - wr (b.1*a.2)),wr (a.2*b.2))
abbrev KT(a b:zL):Int × Int:=(wr (wr (a.1*b.2)+wr (b.1*a.2)),wr (a.2*b.2))
abbrev XE(a b:zL):Int × Int:=(wr (a.1*b.1),wr (a.2*b.2))
abbrev jEa(a b:zL):Int × Int:=(wr (a.1*b.2),wr (a.2*b.1))
def c19(a b:zL)(c:qp a)(d:qp b):js Tryz.prog 35 [rat a,rat b] (vU (kA Zr a b)):=λh=>by
 refine enterSX Tryz.f35 λB=>?_;refine qI (twoC (v:=Zr) c55 (λ_ _=>⟨kz _,kz _⟩) a b c d _ _ zo zo) ?_;exact qt
def c63(a b:zL)(c:qp a)(d:qp b):js Tryz.prog 71 [rat a,rat b] (vU (kA KT a b)):=λh=>by
 refine enterSX Tryz.f71 λB=>?_;refine qI (twoC (v:=KT) c92 (λ_ _=>⟨kz _,kz _⟩) a b c d _ _ zo zo) ?_;exact qt
def c24(a b:zL)(c:qp a)(d:qp b):js Tryz.prog 69 [rat a,rat b] (vU (kA XE a b)):=λh=>by
 refine enterSX Tryz.f69 λB=>?_;refine qI (twoC (v:=XE) c64 (λ_ _=>⟨kz _,kz _⟩) a b c d _ _ zo zo) ?_;exact qt
def c46(a b:zL)(c:qp a)(d:qp b):js Tryz.prog 36 [rat a,rat b] (vU (kA jEa a b)):=λh=>by
 refine enterSX Tryz.f36 λB=>?_;refine qI (twoC (v:=jEa) c75 (λ_ _=>⟨kz _,kz _⟩) a b c d _ _ zo zo) ?_;exact qt
def JR(a b:zL):Bool:=rok a && rok b && decide (wr (a.1*b.2)<wr (b.1*a.2))
def c20(a b:zL)(d:qp a)(f:qp b):js Tryz.prog 44 [rat a,rat b] (bl (JR a b)):=λh=>by
 refine enterSX Tryz.f44 λB=>?_;refine qI (c27 a d.1 d.2 _) ?_;refine ways (λe=>?_) (λe=>?_)
 ·have e:=qZ e;simp only[go_sem,e];refine qx (c27 b f.1 f.2 _) ?_;simp only[go_sem,e];refine ways (λc=>?_) (λc=>?_)
  ·have c:=qZ c;simp only[go_sem,e,c];exact zm (by simp only[go_sem,JR,e,c]<;>try rfl)
  ·have c:=qY c;simp only[go_sem,e,c];exact zm (by simp only[go_sem,JR,e,c]<;>try rfl)
 ·have e:=qY e;simp only[go_sem,e];exact zm (by simp only[go_sem,JR,e]<;>try rfl)
attribute [go_sem] qMa
def jM{k:Nat}(h:k<9223372036854775807):wr ((k:Int)+1)=((k+1:Nat):Int):=by rw[qb qg];rfl
def qy(p:zL):List AV:=[i64 p.1,i64 p.2]
def vD(n d:Int):qp (make n d).1:=by
 unfold make qp;split
 ·exact⟨⟨ze,ze⟩,⟨ze,ze⟩⟩
 ·split
  ·exact⟨⟨ze,ze⟩,⟨ze,ze⟩⟩
  ·split
   ·exact⟨⟨ze,ze⟩,⟨ze,ze⟩⟩
   ·exact⟨kz _,kz _⟩
def vV(v:zL->zL->Int × Int)(a b:zL):qp (kA v a b).1:=by
 unfold kA;split
 ·exact vD _ _
 ·exact⟨⟨ze,ze⟩,⟨ze,ze⟩⟩
def Q9:zL->List zL->zL × Int
 | out,[]=>(out,0)
 | out,r::l=>if(kA KT out r).2≠0 then((0,0),(kA KT out r).2) else Q9 (kA KT out r).1 l
def jB(l:List zL):zL × Int:=if l.all rok then Q9 (0,1) l else((0,0),20)
def c23(h:List Ob)(x:AV)(l:List zL)(v:∀p∈l,qp p)(D:l.length<1099511627776)(y:SlOf h x 2 (l.map qy)):
    ACalls Tryz.prog 32 [x] h λr h'=>r=vU (jB l)/\h'=h:=by
 refine enterSX Tryz.f32 λB=>?_;refine zl (c52 _) ?_;rintro _ F ⟨rfl,f⟩;subst f;have G:∀L,zI (h++L) x=some (l.map qy):=λL=>(y.app L).rows;simp only[go_sem,G,zc]
 refine wp_loop_a ze (λn T h'=>∃(k:Nat) (L:List Ob),h'=h++(Ob.box 24 [i64 0,i64 1]::L)/\T 0=x/\T 2= .ptr h.length 0/\T 9=x/\T 10=i64 l.length/\T 11=i64 k/\k<=l.length/\(l.take k).all rok=true/\n=l.length - k) l.length
  ⟨0,[],rfl,zo,zo,zo,zo,by(simp only[go_sem]<;>rfl),zb,rfl,rfl⟩ ?_
 rintro n T h' ⟨k,L,e,t0,t2,t9,j,g,C,b,rfl⟩;have s:SlOf h' x 2 (l.map qy):=by subst e;exact y.app _
 simp only[go_sem,t9,j,g];refine ways (λf=>?_) (λf=>?_)
 ·have a:k<l.length:=by simpa using f
  have w:=s.at (i:=k) (by simpa using a);have A:(l.map qy)[k]? =some (qy l[k]):=by simp[a]
  have o:(k:Int)<l.length:=zb;simp only[go_sem,w,s.rows,A,o,t9,j,g,Int.toNat_natCast,zd,zc,qy];refine zl (c27 l[k] (v _ (zx a)).1 (v _ (zx a)).2 _) ?_;rintro _ F ⟨rfl,E⟩;subst E;refine zz ?_;refine ways (λc=>?_) (λc=>?_)
  ·simp only[Bool.not_eq_true'] at c;have u:∀M,(h'++M)[h.length]? =some (Ob.box 24 [i64 0,i64 1]):=λM=>(by subst e;simp only[go_sem]);simp only[go_sem,t2,u];subst e;refine zz ?_
   have D:l.all rok=false:=by
    rw[List.all_eq_false];exact⟨l[k],zx a,by simp[c]⟩
   exact zm (by simp only[go_sem,t2,jB,D]<;>try rfl)
  ·simp only[Bool.not_eq_false'] at c;simp only[go_sem,g,jM (show k<9223372036854775807 by omega)];refine⟨l.length - (k+1),zb,k+1,L++[Ob.box 24 [i64 l[k].1,i64 l[k].2]],by rw[e];simp,t0,t2,t9,j,rfl,zb,?_,rfl⟩;rw[List.take_add_one,zg a,List.all_append,b];simp only[Option.toList_some,List.all_cons,List.all_nil,c,Bool.and_self]
 ·have a:k=l.length:=by
   have:¬ (k:Int)<l.length:=(by simpa using f);omega
  have d:l.all rok=true:=by rw[a,qR] at b;exact b
  simp only[go_sem,t0,s.rows,zc]
  refine wp_loop_a ze (λn T h'=>∃(k:Nat) (out:zL) (L:List Ob),h'=h++(Ob.box 24 [i64 out.1,i64 out.2]::L)/\qp out/\T 2= .ptr h.length 0/\T 20=x/\T 21=i64 l.length/\T 22=i64 k/\k<=l.length/\Q9 (0,1) l=Q9 out (l.drop k)/\n=l.length - k) l.length
   ⟨0,(0,1),L,e,⟨⟨ze,ze⟩,⟨ze,ze⟩⟩,by simp only[go_sem,t2],zo,zo,by(simp only[go_sem]<;>rfl),zb,rfl,rfl⟩ ?_
  clear s t0 t2 t9 j g C a f e b;clear k L h' T;rintro n T h' ⟨k,out,L,e,z,t2,q,m,t22,C,t,rfl⟩;have s:SlOf h' x 2 (l.map qy):=by subst e;exact y.app _
  simp only[go_sem,q,m,t22];refine ways (λf=>?_) (λf=>?_)
  ·have a:k<l.length:=(by simpa using f);have w:=s.at (i:=k) (by simpa using a);have A:(l.map qy)[k]? =some (qy l[k]):=(by simp[a]);have o:(k:Int)<l.length:=zb;have u:∀M,(h'++M)[h.length]? =some (Ob.box 24 [i64 out.1,i64 out.2]):=λM=>(by subst e;simp only[go_sem]);simp only[go_sem,w,s.rows,A,o,t2,u,q,m,t22,Int.toNat_natCast,zd,zc,qy];refine qx (c63 out l[k] z (v _ (zx a)) _) ?_;simp only[go_sem,t2,u];refine ways (λc=>?_) (λc=>?_)
   ·simp only[bne_iff_ne,ne_eq] at c;subst e;simp only[go_sem,t2];rw[zP a] at t;exact zm (by simp only[go_sem,t2,jB,d,t,Q9,c]<;>try rfl)
   ·simp only[bne_eq_false_iff_eq] at c;simp only[go_sem,t22,jM (show k<9223372036854775807 by omega)];subst e;refine⟨l.length - (k+1),zb,k+1,(kA KT out l[k]).1,L++[Ob.box 24 [i64 l[k].1,i64 l[k].2]],zo,vV _ _ _,t2,q,m,rfl,zb,?_,rfl⟩;rw[t,zP a];simp[Q9,c]
  ·have a:k=l.length:=by
    have:¬ (k:Int)<l.length:=(by simpa using f);omega
   rw[a,List.drop_length] at t;subst e;simp only[go_sem,t2];exact zm (by simp only[go_sem,t2,jB,d,t,Q9]<;>try rfl)
section
variable{rows:List (List AV)}{p:List AV->Bool}
attribute [go_sem] xRa xTa zBa qNa xUa xVa xWa via qOa
def wN(h:List Ob)(f:FuncId)(a:List AV)(arg:List AV->AV)(rows:List (List AV))(p:List AV->Bool):Prop:=
 ∀row∈rows,∀L,ACalls Tryz.prog f ([arg row]++a) (h++L) λr h'=>r=bl (p row)/\h'=h++L
def Z8(rows:List (List AV))(p:List AV->Bool):Int:=match rows.findIdx? p with
 | some i=>(i:Int)
 | none=> -1
def ws{k:Nat}(c:k<rows.length)(h0:∀j (a:j<k),p (rows[j]' zb)=false)(b:p rows[k]=true):Z8 rows p=k:=by
 unfold Z8;rw[List.findIdx?_eq_some_iff_getElem.2 ⟨c,b,λj a=>by simp[h0 j a]⟩]
def we(h0:∀j (a:j<rows.length),p rows[j]=false):Z8 rows p= -1:=by
 unfold Z8;rw[List.findIdx?_eq_none_iff.2 λx b=>by obtain⟨j,a,e⟩:=List.getElem_of_mem b;rw[<-e];exact h0 j a]
def vE(rows:List (List AV))(p:List AV->Bool):decide (Z8 rows p≥0)=rows.any p:=by
 unfold Z8;cases h:rows.findIdx? p with
 | some i=>
   obtain⟨hi,a,_⟩:=List.findIdx?_eq_some_iff_getElem.1 h;have:rows.any p=true:=List.any_eq_true.2 ⟨_,zx hi,a⟩;rw[this];simp
 | none=>
   have:=List.findIdx?_eq_none_iff.1 h;have:rows.any p=false:=List.any_eq_false.2 λx b=>(by simp[this x b]);rw[this];simp
abbrev agA(row:List AV):AV:= .ag row
abbrev vBa(row:List AV):AV:=nth row 0
def c114(h:List Ob)(x:AV)(f:FuncId)(o:List AV)(rows:List (List AV))(p:List AV->Bool)(E:rows.length<9223372036854775808)(v:∀r∈rows,r.length=1)(u:SlOf h x 1 rows)(A:wN h f o vBa rows p):
    ACalls Tryz.prog 152 [x,.fn (.func f) [] o] h λr h'=>r=i64 (Z8 rows p)/\h'=h:=by
 refine enterQX Tryz.f152 λB=>?_;simp only[go_sem,u.rows]
 refine wp_loop_a ze (λn T h'=>h'=h/\∃k:Nat,T 0=x/\T 1= .fn (.func f) [] o/\T 7=i64 rows.length/\T 8=i64 k/\k<=rows.length/\(∀j (e:j<rows.length),j<k->p rows[j]=false)/\n=rows.length - k) rows.length
  ⟨rfl,0,zo,zo,zo,by(simp only[go_sem]<;>rfl),zb,λ_ _ h=>zb,rfl⟩ ?_
 rintro n T h' ⟨rfl,k,t0,t1,q,l,C,h0,rfl⟩;simp only[go_sem,q,l];refine ways (λs=>?_) (λs=>?_)
 ·have a:k<rows.length:=by simpa using s
  have t:=u.at a;have b:rows[k]? =some rows[k]:=zg a;have m:(k:Int)<rows.length:=zb;have z:=v rows[k] (zx a)
  obtain⟨a0,c⟩:∃a0,rows[k]=[a0]:=by
   match hr:rows[k],z with
   | [a0],_=>exact⟨_,rfl⟩
  have d:=A rows[k] (zx a) [];rw[c] at b d;simp only[zJ,List.cons_append,List.nil_append,vBa,nth] at d;simp only[go_sem,t,u.rows,b,m,t0,t1,q,l,Int.toNat_natCast,zd];refine zl d ?_;rintro _ D ⟨rfl,w⟩;subst w;refine zz ?_;refine ways (λg=>?_) (λg=>?_)
  ·simp only[go_sem,l];rw[<-c] at g;exact zm (by simp only[go_sem,l,ws a (λj e=>h0 j zb e) g]<;>try rfl)
  ·simp only[go_sem,l,jM (show k<9223372036854775807 by omega)];rw[<-c] at g;refine⟨rows.length - (k+1),zb,k+1,t0,t1,q,rfl,zb,λj e y=>?_,rfl⟩;rcases Nat.lt_or_ge j k with i|i
   ·exact h0 j e i
   ·have:j=k:=(by omega);subst this;exact g
 ·have a:k=rows.length:=by
   have:¬ (k:Int)<rows.length:=(by simpa using s);omega
  refine zz ?_;exact zm (by simp only[go_sem,we λj e=>h0 j e zb]<;>try rfl)
def c98(h:List Ob)(x:AV)(f:FuncId)(a:List AV)(rows:List (List AV))(p:List AV->Bool)(c:rows.length<9223372036854775808)(e:∀r∈rows,r.length=1)(d:SlOf h x 1 rows)(b:wN h f a vBa rows p):
    ACalls Tryz.prog 135 [x,.fn (.func f) [] a] h λr h'=>r=bl (rows.any p)/\h'=h:=by
 refine enterSX Tryz.f135 λB=>?_;refine qx (c114 h x f a rows p c e d b) ?_;simp only[go_sem,vE];exact zm (by simp only[go_sem,vE]<;>try rfl)
def c115(h:List Ob)(x:AV)(f:FuncId)(o:List AV)(rows:List (List AV))(p:List AV->Bool)(E:rows.length<9223372036854775808)(v:∀r∈rows,r.length=2)(u:SlOf h x 2 rows)(A:wN h f o agA rows p):
    ACalls Tryz.prog 153 [x,.fn (.func f) [] o] h λr h'=>r=i64 (Z8 rows p)/\h'=h:=by
 refine enterQX Tryz.f153 λB=>?_;simp only[go_sem,u.rows]
 refine wp_loop_a ze (λn T h'=>h'=h/\∃k:Nat,T 0=x/\T 1= .fn (.func f) [] o/\T 7=i64 rows.length/\T 8=i64 k/\k<=rows.length/\(∀j (e:j<rows.length),j<k->p rows[j]=false)/\n=rows.length - k) rows.length
  ⟨rfl,0,zo,zo,zo,by(simp only[go_sem]<;>rfl),zb,λ_ _ h=>zb,rfl⟩ ?_
 rintro n T h' ⟨rfl,k,t0,t1,q,l,C,h0,rfl⟩;simp only[go_sem,q,l];refine ways (λs=>?_) (λs=>?_)
 ·have a:k<rows.length:=by simpa using s
  have t:=u.at a;have b:rows[k]? =some rows[k]:=zg a;have m:(k:Int)<rows.length:=zb;have z:=v rows[k] (zx a)
  obtain⟨a0,a1,c⟩:∃a0 a1,rows[k]=[a0,a1]:=by
   match hr:rows[k],z with
   | [a0,a1],_=>exact⟨_,_,rfl⟩
  have d:=A rows[k] (zx a) [];rw[c] at b d;simp only[zJ,List.cons_append,List.nil_append,agA,nth] at d;simp only[go_sem,t,u.rows,b,m,t0,t1,q,l,Int.toNat_natCast,zd];refine zl d ?_;rintro _ D ⟨rfl,w⟩;subst w;refine zz ?_;refine ways (λg=>?_) (λg=>?_)
  ·simp only[go_sem,l];rw[<-c] at g;exact zm (by simp only[go_sem,l,ws a (λj e=>h0 j zb e) g]<;>try rfl)
  ·simp only[go_sem,l,jM (show k<9223372036854775807 by omega)];rw[<-c] at g;refine⟨rows.length - (k+1),zb,k+1,t0,t1,q,rfl,zb,λj e y=>?_,rfl⟩;rcases Nat.lt_or_ge j k with i|i
   ·exact h0 j e i
   ·have:j=k:=(by omega);subst this;exact g
 ·have a:k=rows.length:=by
   have:¬ (k:Int)<rows.length:=(by simpa using s);omega
  refine zz ?_;exact zm (by simp only[go_sem,we λj e=>h0 j e zb]<;>try rfl)
def c101(h:List Ob)(x:AV)(f:FuncId)(a:List AV)(rows:List (List AV))(p:List AV->Bool)(c:rows.length<9223372036854775808)(e:∀r∈rows,r.length=2)(d:SlOf h x 2 rows)(b:wN h f a agA rows p):
    ACalls Tryz.prog 138 [x,.fn (.func f) [] a] h λr h'=>r=bl (rows.any p)/\h'=h:=by
 refine enterSX Tryz.f138 λB=>?_;refine qx (c115 h x f a rows p c e d b) ?_;simp only[go_sem,vE];exact zm (by simp only[go_sem,vE]<;>try rfl)
def c100(h:List Ob)(x:AV)(f:FuncId)(o:List AV)(rows:List (List AV))(p:List AV->Bool)(E:rows.length<9223372036854775808)(v:∀r∈rows,r.length=3)(u:SlOf h x 3 rows)(A:wN h f o agA rows p):
    ACalls Tryz.prog 137 [x,.fn (.func f) [] o] h λr h'=>r=i64 (Z8 rows p)/\h'=h:=by
 refine enterQX Tryz.f137 λB=>?_;simp only[go_sem,u.rows]
 refine wp_loop_a ze (λn T h'=>h'=h/\∃k:Nat,T 0=x/\T 1= .fn (.func f) [] o/\T 7=i64 rows.length/\T 8=i64 k/\k<=rows.length/\(∀j (e:j<rows.length),j<k->p rows[j]=false)/\n=rows.length - k) rows.length
  ⟨rfl,0,zo,zo,zo,by(simp only[go_sem]<;>rfl),zb,λ_ _ h=>zb,rfl⟩ ?_
 rintro n T h' ⟨rfl,k,t0,t1,q,l,C,h0,rfl⟩;simp only[go_sem,q,l];refine ways (λs=>?_) (λs=>?_)
 ·have a:k<rows.length:=by simpa using s
  have t:=u.at a;have b:rows[k]? =some rows[k]:=zg a;have m:(k:Int)<rows.length:=zb;have z:=v rows[k] (zx a)
  obtain⟨a0,a1,a2,c⟩:∃a0 a1 a2,rows[k]=[a0,a1,a2]:=by
   match hr:rows[k],z with
   | [a0,a1,a2],_=>exact⟨_,_,_,rfl⟩
  have d:=A rows[k] (zx a) [];rw[c] at b d;simp only[zJ,List.cons_append,List.nil_append,agA,nth] at d;simp only[go_sem,t,u.rows,b,m,t0,t1,q,l,Int.toNat_natCast,zd];refine zl d ?_;rintro _ D ⟨rfl,w⟩;subst w;refine zz ?_;refine ways (λg=>?_) (λg=>?_)
  ·simp only[go_sem,l];rw[<-c] at g;exact zm (by simp only[go_sem,l,ws a (λj e=>h0 j zb e) g]<;>try rfl)
  ·simp only[go_sem,l,jM (show k<9223372036854775807 by omega)];rw[<-c] at g;refine⟨rows.length - (k+1),zb,k+1,t0,t1,q,rfl,zb,λj e y=>?_,rfl⟩;rcases Nat.lt_or_ge j k with i|i
   ·exact h0 j e i
   ·have:j=k:=(by omega);subst this;exact g
 ·have a:k=rows.length:=by
   have:¬ (k:Int)<rows.length:=(by simpa using s);omega
  refine zz ?_;exact zm (by simp only[go_sem,we λj e=>h0 j e zb]<;>try rfl)
def c78(h:List Ob)(x:AV)(f:FuncId)(a:List AV)(rows:List (List AV))(p:List AV->Bool)(c:rows.length<9223372036854775808)(e:∀r∈rows,r.length=3)(d:SlOf h x 3 rows)(b:wN h f a agA rows p):
    ACalls Tryz.prog 106 [x,.fn (.func f) [] a] h λr h'=>r=bl (rows.any p)/\h'=h:=by
 refine enterSX Tryz.f106 λB=>?_;refine qx (c100 h x f a rows p c e d b) ?_;simp only[go_sem,vE];exact zm (by simp only[go_sem,vE]<;>try rfl)
def c103(h:List Ob)(x:AV)(f:FuncId)(o:List AV)(rows:List (List AV))(p:List AV->Bool)(E:rows.length<9223372036854775808)(v:∀r∈rows,r.length=4)(u:SlOf h x 4 rows)(A:wN h f o agA rows p):
    ACalls Tryz.prog 140 [x,.fn (.func f) [] o] h λr h'=>r=i64 (Z8 rows p)/\h'=h:=by
 refine enterQX Tryz.f140 λB=>?_;simp only[go_sem,u.rows]
 refine wp_loop_a ze (λn T h'=>h'=h/\∃k:Nat,T 0=x/\T 1= .fn (.func f) [] o/\T 7=i64 rows.length/\T 8=i64 k/\k<=rows.length/\(∀j (e:j<rows.length),j<k->p rows[j]=false)/\n=rows.length - k) rows.length
  ⟨rfl,0,zo,zo,zo,by(simp only[go_sem]<;>rfl),zb,λ_ _ h=>zb,rfl⟩ ?_
 rintro n T h' ⟨rfl,k,t0,t1,q,l,C,h0,rfl⟩;simp only[go_sem,q,l];refine ways (λs=>?_) (λs=>?_)
 ·have a:k<rows.length:=by simpa using s
  have t:=u.at a;have b:rows[k]? =some rows[k]:=zg a;have m:(k:Int)<rows.length:=zb;have z:=v rows[k] (zx a)
  obtain⟨a0,a1,a2,a3,c⟩:∃a0 a1 a2 a3,rows[k]=[a0,a1,a2,a3]:=by
   match hr:rows[k],z with
   | [a0,a1,a2,a3],_=>exact⟨_,_,_,_,rfl⟩
  have d:=A rows[k] (zx a) [];rw[c] at b d;simp only[zJ,List.cons_append,List.nil_append,agA,nth] at d;simp only[go_sem,t,u.rows,b,m,t0,t1,q,l,Int.toNat_natCast,zd];refine zl d ?_;rintro _ D ⟨rfl,w⟩;subst w;refine zz ?_;refine ways (λg=>?_) (λg=>?_)
  ·simp only[go_sem,l];rw[<-c] at g;exact zm (by simp only[go_sem,l,ws a (λj e=>h0 j zb e) g]<;>try rfl)
  ·simp only[go_sem,l,jM (show k<9223372036854775807 by omega)];rw[<-c] at g;refine⟨rows.length - (k+1),zb,k+1,t0,t1,q,rfl,zb,λj e y=>?_,rfl⟩;rcases Nat.lt_or_ge j k with i|i
   ·exact h0 j e i
   ·have:j=k:=(by omega);subst this;exact g
 ·have a:k=rows.length:=by
   have:¬ (k:Int)<rows.length:=(by simpa using s);omega
  refine zz ?_;exact zm (by simp only[go_sem,we λj e=>h0 j e zb]<;>try rfl)
def c81(h:List Ob)(x:AV)(f:FuncId)(a:List AV)(rows:List (List AV))(p:List AV->Bool)(c:rows.length<9223372036854775808)(e:∀r∈rows,r.length=4)(d:SlOf h x 4 rows)(b:wN h f a agA rows p):
    ACalls Tryz.prog 109 [x,.fn (.func f) [] a] h λr h'=>r=bl (rows.any p)/\h'=h:=by
 refine enterSX Tryz.f109 λB=>?_;refine qx (c103 h x f a rows p c e d b) ?_;simp only[go_sem,vE];exact zm (by simp only[go_sem,vE]<;>try rfl)
def c42(h:List Ob)(x:AV)(f:FuncId)(q:List AV)(rows:List (List AV))(p:List AV->Bool)(I:rows.length<9223372036854775808)(A:∀r∈rows,r.length=11)(z:SlOf h x 11 rows)(F:wN h f q agA rows p):
    ACalls Tryz.prog 28 [x,.fn (.func f) [] q] h λr h'=>r=i64 (Z8 rows p)/\h'=h:=by
 refine enterQX Tryz.f28 λB=>?_;simp only[go_sem,z.rows]
 refine wp_loop_a ze (λn T h'=>h'=h/\∃k:Nat,T 0=x/\T 1= .fn (.func f) [] q/\T 7=i64 rows.length/\T 8=i64 k/\k<=rows.length/\(∀j (g:j<rows.length),j<k->p rows[j]=false)/\n=rows.length - k) rows.length
  ⟨rfl,0,zo,zo,zo,by(simp only[go_sem]<;>rfl),zb,λ_ _ h=>zb,rfl⟩ ?_
 rintro n T h' ⟨rfl,k,t0,t1,s,m,G,h0,rfl⟩;simp only[go_sem,s,m];refine ways (λt=>?_) (λt=>?_)
 ·have a:k<rows.length:=by simpa using t
  have w:=z.at a;have b:rows[k]? =some rows[k]:=zg a;have o:(k:Int)<rows.length:=zb;have E:=A rows[k] (zx a)
  obtain⟨a0,a1,a2,a3,a4,a5,u,y,v,a9,d,c⟩:∃a0 a1 a2 a3 a4 a5 u y v a9 d,rows[k]=[a0,a1,a2,a3,a4,a5,u,y,v,a9,d]:=by
   match hr:rows[k],E with
   | [a0,a1,a2,a3,a4,a5,u,y,v,a9,d],_=>exact⟨_,_,_,_,_,_,_,_,_,_,_,rfl⟩
  have e:=F rows[k] (zx a) [];rw[c] at b e;simp only[zJ,List.cons_append,List.nil_append,agA,nth] at e;simp only[go_sem,w,z.rows,b,o,t0,t1,s,m,Int.toNat_natCast,zd];refine zl e ?_;rintro _ H ⟨rfl,C⟩;subst C;refine zz ?_;refine ways (λi=>?_) (λi=>?_)
  ·simp only[go_sem,m];rw[<-c] at i;exact zm (by simp only[go_sem,m,ws a (λj g=>h0 j zb g) i]<;>try rfl)
  ·simp only[go_sem,m,jM (show k<9223372036854775807 by omega)];rw[<-c] at i;refine⟨rows.length - (k+1),zb,k+1,t0,t1,s,rfl,zb,λj g D=>?_,rfl⟩;rcases Nat.lt_or_ge j k with l|l
   ·exact h0 j g l
   ·have:j=k:=(by omega);subst this;exact i
 ·have a:k=rows.length:=by
   have:¬ (k:Int)<rows.length:=(by simpa using t);omega
  refine zz ?_;exact zm (by simp only[go_sem,we λj g=>h0 j g zb]<;>try rfl)
end
