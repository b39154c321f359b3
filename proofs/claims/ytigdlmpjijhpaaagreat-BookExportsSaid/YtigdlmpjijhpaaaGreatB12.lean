import Derived.Test.YtigdlmpjijhpaaaGreatBA
import Derived.Test.YtigdlmpjijhpaaaGreatB11
import Derived.Test.YtigdlmpjijhpaaaGreatB10
import Derived.IntWalk
set_option linter.all false
namespace Go.Proofs.YtigdlmpjijhpaaaGreat.Ax
open Go Go.Proofs
set_option maxRecDepth 100000
attribute [go_sem] ty3 ty4 KHa Yia Yja
abbrev i64(n:Int):AV:= .v (.int .i64 n)
abbrev bl(b:Bool):AV:= .v (.bool b)
abbrev W0a(n d:Int):AV:= .ag [i64 n,i64 d]
abbrev wr(n:Int):Int:=IntKind.wrap .i64 n
theorem c52:xw Tryz.prog 202 [] (W0a 0 1):=λh=>by
 refine zj Tryz.f202 [.cell 0 24] 2 rfl rfl rfl rfl rfl rfl (by decide) (⟨_,_,⟨rfl,rfl⟩,.refl⟩) λB=>?_
 simp only[go_sem]
 refine zm ?_<;>(simp only[go_sem]<;>try rfl)
def JA(n:Int):Int:=if n= -9223372036854775808 then 4611686018427387904 else if n<0 then wr (0 - n) else n
theorem c84(n:Int):xw Tryz.prog 258 [i64 n] (i64 (JA n)):=λh=>by
 refine zj Tryz.f258 [.tmp 2] 12 rfl rfl rfl rfl rfl rfl (by decide) (⟨_,_,⟨rfl,rfl⟩,.refl⟩) λB=>?_
 simp only[go_sem]
 refine ways (λe=>?_) (λe=>?_)
 ·simp only[beq_iff_eq] at e
  refine zm ?_<;>(simp only[go_sem,JA,e]<;>try rfl)
 ·simp only[beq_eq_false_iff_ne,ne_eq] at e
  simp only[go_sem]
  refine ways (λa=>?_) (λa=>?_)
  ·simp only[decide_eq_true_eq] at a
   simp only[go_sem]
   refine zm ?_<;>(simp only[go_sem,JA,e,a]<;>try rfl)
  ·simp only[decide_eq_false_iff_not] at a
   simp only[go_sem]
   refine zm ?_<;>(simp only[go_sem,JA,e,a]<;>try rfl)
def Fit(n:Int):Prop:= -9223372036854775808<=n/\n<=9223372036854775807
theorem qp{n:Int}(h:Fit n):wr n=n:=Go.IntWalk.i64_in n h
theorem yma{n:Int}(h:Fit n):0<=JA n:=by
 unfold JA
 split
 ·omega
 ·split
  ·rw[qp (by unfold Fit at *; omega)];omega
  ·omega
def WJ(a b:Int):Int:=(Nat.gcd (JA a).toNat (JA b).toNat:Int)
theorem c53(a b:Int)(i:Fit a)(g:Fit b):xw Tryz.prog 204 [i64 a,i64 b] (i64 (WJ a b)):=λh=>by
 refine zj Tryz.f204 [.tmp 4] 16 rfl rfl rfl rfl rfl rfl (by decide) (⟨_,_,⟨rfl,rfl⟩,.refl⟩) λB=>?_
 simp only[go_sem]
 refine zg (c84 a h) ?_
 rintro _ _ ⟨rfl,rfl⟩
 simp only[go_sem]
 refine zg (c84 b _) ?_
 rintro _ _ ⟨rfl,rfl⟩
 simp only[go_sem]
 rename_i h
 refine zP (by decide) (λn T h'=>h'=h/\∃x y:Nat,T 0=i64 x/\T 1=i64 y/\Nat.gcd x y=Nat.gcd (JA a).toNat (JA b).toNat/\y=n) _ ⟨rfl,(JA a).toNat,(JA b).toNat,?_,?_,rfl,rfl⟩ ?_
 ·simp only[go_sem,kK (yma i)]
 ·simp only[go_sem,kK (yma g)]
 rintro n T h ⟨rfl,x,y,h0,f,c,rfl⟩
 simp only[go_sem,h0,f]
 refine ways (λe=>?_) (λe=>?_)
 ·simp only[go_sem]
  have hyp:0<y:=by simpa using e
  have d:¬ (y:Int)=0:=by omega
  refine zV rfl [] 0 [(0,0,[]),(1,0,[]),(2,0,[]),(3,0,[]),(4,0,[]),(5,0,[])] rfl (by decide) (by decide) ?_
  simp only[go_sem,h0,f,d]
  refine⟨x % y,Nat.mod_lt _ hyp,y,x % y,rfl,by rw[Int.ofNat_tmod],?_,rfl⟩
  rw[<-c,Nat.gcd_comm y, <-Nat.gcd_rec,Nat.gcd_comm]
 ·simp only[go_sem]
  have d:y=0:=by simpa using e
  subst d
  rw[Nat.gcd_zero_right] at c
  simp only[go_sem,h0]
  refine zm ?_<;>(simp only[go_sem,WJ,h0,c]<;>try rfl)
theorem JPa{a b:Int}(c:Fit b)(h:0<b):0<WJ a b:=by
 have:JA b=b:=by
  unfold JA
  split
  ·omega
  ·split<;>omega
 unfold WJ
 rw[this]
 have:=Nat.gcd_pos_of_pos_right (JA a).toNat (show 0<b.toNat by omega)
 omega
abbrev qt:=Int × Int
abbrev rat(p:qt):AV:=W0a p.1 p.2
def make(n d:Int):qt × Int:=
 if d<=0 then((0,0),20) else if n=0 then((0,1),0) else
  if wr (n.tdiv (WJ n d))>2147483647∨wr (n.tdiv (WJ n d))< -2147483647∨wr (d.tdiv (WJ n d))>2147483647 then((0,0),10) else((wr (n.tdiv (WJ n d)),wr (d.tdiv (WJ n d))),0)
abbrev KD(p:qt × Int):AV:= .tup [rat p.1,i64 p.2]
theorem c18(n d:Int)(k:Fit n)(i:Fit d):xw Tryz.prog 129 [i64 n,i64 d] (KD (make n d)):=λh=>by
 refine zj Tryz.f129 [.cell 4 24,.tmp 5] 36 rfl rfl rfl rfl rfl rfl (by decide) (⟨_,_,⟨rfl,rfl⟩,.refl⟩) λB=>?_
 simp only[go_sem]
 refine ways (λe=>?_) (λe=>?_)
 ·simp only[decide_eq_true_eq] at e
  simp only[go_sem]
  refine zm ?_<;>(simp only[go_sem,make,e]<;>try rfl)
 simp only[decide_eq_false_iff_not] at e
 simp only[go_sem]
 refine ways (λf=>?_) (λf=>?_)
 ·simp only[beq_iff_eq] at f
  simp only[go_sem]
  refine zg (c52 _) ?_
  rintro _ _ ⟨rfl,rfl⟩
  simp only[go_sem]
  refine zm ?_<;>(simp only[go_sem,make,e,f]<;>try rfl)
 simp only[beq_eq_false_iff_ne,ne_eq] at f
 simp only[go_sem]
 refine zg (c53 n d k i _) ?_
 rintro _ _ ⟨rfl,rfl⟩
 simp only[go_sem]
 refine zV rfl [] 0 [(0,0,[]),(1,0,[]),(2,0,[]),(3,0,[]),(4,0,[]),(5,0,[]),(6,0,[]),(7,0,[])] rfl (by decide) (by decide) ?_
 have j:¬ WJ n d=0:=by have:=JPa (a:=n) i (by omega);omega
 simp only[go_sem,j]
 refine ways (λb=>?_) (λb=>?_)
 ·have b:=vb b
  simp only[go_sem,b]
  refine ways (λc=>?_) (λc=>?_)
  ·have c:=vb c
   simp only[go_sem,c]
   refine ways (λg=>?_) (λg=>?_)
   ·simp only[go_sem]
    simp only[decide_eq_true_eq,decide_eq_false_iff_not] at b c g
    refine zm ?_<;>(simp only[go_sem,make,e,f,b,c,g,or_true]<;>try rfl)
   ·simp only[go_sem]
    simp only[decide_eq_true_eq,decide_eq_false_iff_not] at b c g
    refine zm ?_<;>(simp only[go_sem,make,e,f,b,c,g,or_self]<;>try rfl)
  ·have c:=va c
   simp only[go_sem,c]
   simp only[decide_eq_true_eq,decide_eq_false_iff_not] at b c
   refine zm ?_<;>(simp only[go_sem,make,e,f,b,c,true_or,or_true]<;>try rfl)
 ·have b:=va b
  simp only[go_sem,b]
  simp only[decide_eq_true_eq] at b
  refine zm ?_<;>(simp only[go_sem,make,e,f,b,true_or]<;>try rfl)
def rok(p:qt):Bool:=(make p.1 p.2).2==0 && ((make p.1 p.2).1.1==p.1 && (make p.1 p.2).1.2==p.2)
theorem c27(p:qt)(b:Fit p.1)(a:Fit p.2):xw Tryz.prog 133 [rat p] (bl (rok p)):=λh=>by
 refine zj Tryz.f133 [.tmp 2] 20 rfl rfl rfl rfl rfl rfl (by decide) (⟨_,_,⟨rfl,rfl⟩,.refl⟩) λB=>?_
 simp only[go_sem]
 refine zg (c18 p.1 p.2 b a _) ?_
 rintro _ _ ⟨rfl,rfl⟩
 simp only[go_sem]
 refine ways (λe=>?_) (λe=>?_)
 ·have e:=xJ e
  simp only[go_sem,e]
  refine zm ?_<;>(simp only[go_sem,rok,e]<;>try rfl)
 ·have e:=xI e
  simp only[go_sem,e]
  refine zm ?_<;>(simp only[go_sem,rok,e]<;>try rfl)
theorem ku(n:Int):Fit (wr n):=by
 unfold Fit wr
 rw[IntKind.wrap_i64]
 omega
def jo(p:qt):Prop:=Fit p.1/\Fit p.2
def Two(f:FuncId)(v:qt->qt->Int × Int):Prop:=∀(h:List Ob) (i j:Nat) (a b:qt),h[i]? =some (.box 24 [i64 a.1,i64 a.2])->h[j]? =some (.box 24 [i64 b.1,i64 b.2])->
 ACalls Tryz.prog f [.ptr i 0,.ptr j 0] h λr h'=>r= .tup [i64 (v a b).1,i64 (v a b).2]/\h'=h
theorem c55:Two 206 λa b=>(wr (wr (a.1*b.2) - wr (b.1*a.2)),wr (a.2*b.2)):=λh i j a b hi c=>by
 refine zj Tryz.f206 [.tmp 2,.tmp 3] 20 rfl rfl rfl rfl rfl rfl (by decide) (⟨_,_,⟨rfl,rfl⟩,.refl⟩) λB=>?_
 simp only[go_sem]
 refine zV rfl [] 0 [(0,0,[]),(2,0,[]),(5,0,[]),(7,0,[]),(11,0,[]),(13,0,[]),(1,0,[]),(3,0,[]),(4,0,[]),(6,0,[]),(8,0,[]),(9,0,[]),(10,0,[]),(16,0,[]),(12,0,[]),(14,0,[]),(15,0,[]),(17,0,[])] rfl (by decide) (by decide) ?_
 simp only[go_sem,hi,c]
 refine zm ?_<;>(simp only[go_sem]<;>try rfl)
theorem c92:Two 257 λa b=>(wr (wr (a.1*b.2)+wr (b.1*a.2)),wr (a.2*b.2)):=λh i j a b hi c=>by
 refine zj Tryz.f257 [.tmp 2,.tmp 3] 20 rfl rfl rfl rfl rfl rfl (by decide) (⟨_,_,⟨rfl,rfl⟩,.refl⟩) λB=>?_
 simp only[go_sem]
 refine zV rfl [] 0 [(0,0,[]),(2,0,[]),(5,0,[]),(7,0,[]),(11,0,[]),(13,0,[]),(1,0,[]),(3,0,[]),(4,0,[]),(6,0,[]),(8,0,[]),(9,0,[]),(10,0,[]),(16,0,[]),(12,0,[]),(14,0,[]),(15,0,[]),(17,0,[])] rfl (by decide) (by decide) ?_
 simp only[go_sem,hi,c]
 refine zm ?_<;>(simp only[go_sem]<;>try rfl)
theorem c64:Two 256 λa b=>(wr (a.1*b.1),wr (a.2*b.2)):=λh i j a b hi c=>by
 refine zj Tryz.f256 [.tmp 2,.tmp 3] 14 rfl rfl rfl rfl rfl rfl (by decide) (⟨_,_,⟨rfl,rfl⟩,.refl⟩) λB=>?_
 simp only[go_sem]
 refine zV rfl [] 0 [(0,0,[]),(2,0,[]),(5,0,[]),(7,0,[]),(1,0,[]),(3,0,[]),(4,0,[]),(10,0,[]),(6,0,[]),(8,0,[]),(9,0,[]),(11,0,[])] rfl (by decide) (by decide) ?_
 simp only[go_sem,hi,c]
 refine zm ?_<;>(simp only[go_sem]<;>try rfl)
theorem c75:Two 207 λa b=>(wr (a.1*b.2),wr (a.2*b.1)):=λh i j a b hi c=>by
 refine zj Tryz.f207 [.tmp 2,.tmp 3] 14 rfl rfl rfl rfl rfl rfl (by decide) (⟨_,_,⟨rfl,rfl⟩,.refl⟩) λB=>?_
 simp only[go_sem]
 refine zV rfl [] 0 [(0,0,[]),(2,0,[]),(5,0,[]),(7,0,[]),(1,0,[]),(3,0,[]),(4,0,[]),(10,0,[]),(6,0,[]),(8,0,[]),(9,0,[]),(11,0,[])] rfl (by decide) (by decide) ?_
 simp only[go_sem,hi,c]
 refine zm ?_<;>(simp only[go_sem]<;>try rfl)
def Ze(v:qt->qt->Int × Int)(a b:qt):qt × Int:=if(rok a && rok b)=true then make (v a b).1 (v a b).2 else((0,0),20)
theorem c54(h:List Ob)(a b:qt)(i:jo a)(g:jo b)(f:FuncId)(cs:List AV)(n d:Int)(l:Fit n)(k:Fit d)(j:∀L,ACalls Tryz.prog f cs (h++L) λr h'=>r= .tup [i64 n,i64 d]/\h'=h++L):
  ACalls Tryz.prog 205 [rat a,rat b,.fn (.func f) [] cs] h λr h'=>r=KD (if(rok a && rok b)=true then make n d else((0,0),20))/\h'=h:=by
 refine zj Tryz.f205 [.cell 6 24,.tmp 7] 24 rfl rfl rfl rfl rfl rfl (by decide) (⟨_,_,⟨rfl,rfl⟩,.refl⟩) λB=>?_
 simp only[go_sem]
 refine zg (c27 a i.1 i.2 _) ?_
 rintro _ _ ⟨rfl,rfl⟩
 simp only[go_sem]
 refine ways (λe=>?_) (λe=>?_)
 ·have e:=vb e
  simp only[Bool.not_eq_false'] at e
  simp only[go_sem,e]
  refine zg (c27 b g.1 g.2 _) ?_
  rintro _ _ ⟨rfl,rfl⟩
  simp only[go_sem,e]
  refine ways (λc=>?_) (λc=>?_)
  ·simp only[Bool.not_eq_true'] at c
   simp only[go_sem,e,c]
   refine zm ?_<;>(simp only[go_sem,e,c]<;>try rfl)
  ·simp only[Bool.not_eq_false'] at c
   simp only[go_sem,e,c]
   refine zg (j _) ?_
   rintro _ _ ⟨rfl,rfl⟩
   simp only[go_sem]
   refine zg (c18 n d l k _) ?_
   rintro _ _ ⟨rfl,rfl⟩
   simp only[go_sem]
   refine zm ?_<;>(simp only[go_sem,e,c]<;>try rfl)
 ·have e:=va e
  simp only[Bool.not_eq_true'] at e
  simp only[go_sem,e]
  refine zm ?_<;>(simp only[go_sem,e]<;>try rfl)
theorem K6a{f:FuncId}{v:qt->qt->Int × Int}(e:Two f v)(c:∀a b,Fit (v a b).1/\Fit (v a b).2){h:List Ob}(a b:qt)(k:jo a)(g:jo b)(i j:Nat)(hi:h[i]? =some (.box 24 [i64 a.1,i64 a.2]))(d:h[j]? =some (.box 24 [i64 b.1,i64 b.2])):
  ACalls Tryz.prog 205 [rat a,rat b,.fn (.func f) [] [.ptr i 0,.ptr j 0]] h λr h'=>r=KD (Ze v a b)/\h'=h:=
 c54 h a b k g f _ _ _ (c a b).1 (c a b).2 λL=>e _ i j a b (zf hi) (zf d)
abbrev K7a(a b:qt):Int × Int:=(wr (wr (a.1*b.2) - wr (b.1*a.2)),wr (a.2*b.2))
abbrev ZQa(a b:qt):Int × Int:=(wr (wr (a.1*b.2)+wr (b.1*a.2)),wr (a.2*b.2))
abbrev jJa(a b:qt):Int × Int:=(wr (a.1*b.1),wr (a.2*b.2))
abbrev JQa(a b:qt):Int × Int:=(wr (a.1*b.2),wr (a.2*b.1))
theorem c19(a b:qt)(c:jo a)(d:jo b):xw Tryz.prog 131 [rat a,rat b] (KD (Ze K7a a b)):=λh=>by
 refine zj Tryz.f131 [.cell 4 24,.tmp 5] 12 rfl rfl rfl rfl rfl rfl (by decide) (⟨_,_,⟨rfl,rfl⟩,.refl⟩) λB=>?_
 simp only[go_sem]
 refine zg (K6a (v:=K7a) c55 (λ_ _=>⟨ku _,ku _⟩) a b c d _ _ (by simp only[go_sem]) (by simp only[go_sem])) ?_
 rintro _ _ ⟨rfl,rfl⟩
 simp only[go_sem]
 refine zm ?_<;>(simp only[go_sem]<;>try rfl)
theorem c63(a b:qt)(c:jo a)(d:jo b):xw Tryz.prog 203 [rat a,rat b] (KD (Ze ZQa a b)):=λh=>by
 refine zj Tryz.f203 [.cell 4 24,.tmp 5] 12 rfl rfl rfl rfl rfl rfl (by decide) (⟨_,_,⟨rfl,rfl⟩,.refl⟩) λB=>?_
 simp only[go_sem]
 refine zg (K6a (v:=ZQa) c92 (λ_ _=>⟨ku _,ku _⟩) a b c d _ _ (by simp only[go_sem]) (by simp only[go_sem])) ?_
 rintro _ _ ⟨rfl,rfl⟩
 simp only[go_sem]
 refine zm ?_<;>(simp only[go_sem]<;>try rfl)
theorem c24(a b:qt)(c:jo a)(d:jo b):xw Tryz.prog 201 [rat a,rat b] (KD (Ze jJa a b)):=λh=>by
 refine zj Tryz.f201 [.cell 4 24,.tmp 5] 12 rfl rfl rfl rfl rfl rfl (by decide) (⟨_,_,⟨rfl,rfl⟩,.refl⟩) λB=>?_
 simp only[go_sem]
 refine zg (K6a (v:=jJa) c64 (λ_ _=>⟨ku _,ku _⟩) a b c d _ _ (by simp only[go_sem]) (by simp only[go_sem])) ?_
 rintro _ _ ⟨rfl,rfl⟩
 simp only[go_sem]
 refine zm ?_<;>(simp only[go_sem]<;>try rfl)
theorem c46(a b:qt)(c:jo a)(d:jo b):xw Tryz.prog 132 [rat a,rat b] (KD (Ze JQa a b)):=λh=>by
 refine zj Tryz.f132 [.cell 4 24,.tmp 5] 12 rfl rfl rfl rfl rfl rfl (by decide) (⟨_,_,⟨rfl,rfl⟩,.refl⟩) λB=>?_
 simp only[go_sem]
 refine zg (K6a (v:=JQa) c75 (λ_ _=>⟨ku _,ku _⟩) a b c d _ _ (by simp only[go_sem]) (by simp only[go_sem])) ?_
 rintro _ _ ⟨rfl,rfl⟩
 simp only[go_sem]
 refine zm ?_<;>(simp only[go_sem]<;>try rfl)
def YA(a b:qt):Bool:=rok a && rok b && decide (wr (a.1*b.2)<wr (b.1*a.2))
theorem c20(a b:qt)(d:jo a)(f:jo b):xw Tryz.prog 134 [rat a,rat b] (bl (YA a b)):=λh=>by
 refine zj Tryz.f134 [.tmp 4] 24 rfl rfl rfl rfl rfl rfl (by decide) (⟨_,_,⟨rfl,rfl⟩,.refl⟩) λB=>?_
 simp only[go_sem]
 refine zg (c27 a d.1 d.2 _) ?_
 rintro _ _ ⟨rfl,rfl⟩
 simp only[go_sem]
 refine ways (λe=>?_) (λe=>?_)
 ·have e:=xJ e
  simp only[go_sem,e]
  refine zg (c27 b f.1 f.2 _) ?_
  rintro _ _ ⟨rfl,rfl⟩
  simp only[go_sem,e]
  refine ways (λc=>?_) (λc=>?_)
  ·have c:=xJ c
   simp only[go_sem,e,c]
   refine zm ?_<;>(simp only[go_sem,YA,e,c]<;>try rfl)
  ·have c:=xI c
   simp only[go_sem,e,c]
   refine zm ?_<;>(simp only[go_sem,YA,e,c]<;>try rfl)
 ·have e:=xI e
  simp only[go_sem,e]
  refine zm ?_<;>(simp only[go_sem,YA,e]<;>try rfl)
attribute [go_sem] Q2a
theorem xx{k:Nat}(h:k<9223372036854775807):wr ((k:Int)+1)=((k+1:Nat):Int):=by rw[qp (by unfold Fit;omega)];rfl
def jP(p:qt):List AV:=[i64 p.1,i64 p.2]
theorem Qg(n d:Int):jo (make n d).1:=by
 unfold make jo
 split
 ·exact⟨⟨by decide,by decide⟩,⟨by decide,by decide⟩⟩
 ·split
  ·exact⟨⟨by decide,by decide⟩,⟨by decide,by decide⟩⟩
  ·split
   ·exact⟨⟨by decide,by decide⟩,⟨by decide,by decide⟩⟩
   ·exact⟨ku _,ku _⟩
theorem KE(v:qt->qt->Int × Int)(a b:qt):jo (Ze v a b).1:=by
 unfold Ze
 split
 ·exact Qg _ _
 ·exact⟨⟨by decide,by decide⟩,⟨by decide,by decide⟩⟩
def WK:qt->List qt->qt × Int
 | out,[]=>(out,0)
 | out,r::l=>if(Ze ZQa out r).2≠0 then((0,0),(Ze ZQa out r).2) else WK (Ze ZQa out r).1 l
def yS(l:List qt):qt × Int:=if l.all rok then WK (0,1) l else((0,0),20)
theorem c23(h:List Ob)(x:AV)(l:List qt)(y:∀p∈l,jo p)(D:l.length<1099511627776)(z:SlOf h x 2 (l.map jP)):
  ACalls Tryz.prog 128 [x] h λr h'=>r=KD (yS l)/\h'=h:=by
 refine zj Tryz.f128 [.cell 2 24,.tmp 3] 38 rfl rfl rfl rfl rfl rfl (by decide) (⟨_,_,⟨rfl,rfl⟩,.refl⟩) λB=>?_
 simp only[go_sem]
 refine zg (c52 _) ?_
 rintro _ C ⟨rfl,f⟩
 subst f
 have F:∀L,z6 (h++L) x=some (l.map jP):=λL=>(z.app L).rows
 simp only[go_sem,F,zb]
 refine zP (by decide) (λn T h'=>∃(k:Nat) (L:List Ob),h'=h++(Ob.box 24 [i64 0,i64 1]::L)/\T 0=x/\T 2= .ptr h.length 0/\T 9=x/\T 10=i64 l.length/\T 11=i64 k/\k<=l.length/\(l.take k).all rok=true/\n=l.length - k) l.length
  ⟨0,[],rfl,by simp only[go_sem],by simp only[go_sem],by simp only[go_sem],by simp only[go_sem],by(simp only[go_sem]<;>rfl),by omega,rfl,rfl⟩ ?_
 rintro n T h' ⟨k,L,e,t0,t2,t9,t10,g,E,b,rfl⟩
 have m:SlOf h' x 2 (l.map jP):=by subst e;exact z.app _
 simp only[go_sem,t9,t10,g]
 refine ways (λf=>?_) (λf=>?_)
 ·have a:k<l.length:=by simpa using f
  have v:=m.at (i:=k) (by simpa using a)
  have w:(l.map jP)[k]? =some (jP l[k]):=by simp[a]
  have j:(k:Int)<l.length:=by omega
  simp only[go_sem,v,m.rows,w,j,t9,t10,g,Int.toNat_natCast,zh,zb,jP]
  refine zg (c27 l[k] (y _ (zD a)).1 (y _ (zD a)).2 _) ?_
  rintro _ C ⟨rfl,A⟩
  subst A
  simp only[go_sem]
  refine ways (λc=>?_) (λc=>?_)
  ·simp only[Bool.not_eq_true'] at c
   have t:∀M,(h'++M)[h.length]? =some (Ob.box 24 [i64 0,i64 1]):=λM=>by subst e;simp only[go_sem]
   simp only[go_sem,t2,t]
   subst e
   simp only[go_sem]
   have D:l.all rok=false:=by
    rw[List.all_eq_false]
    exact⟨l[k],zD a,by simp[c]⟩
   refine zm ?_<;>(simp only[go_sem,t2,yS,D]<;>try rfl)
  ·simp only[Bool.not_eq_false'] at c
   simp only[go_sem,g,xx (show k<9223372036854775807 by omega)]
   refine⟨l.length - (k+1),by omega,k+1,L++[Ob.box 24 [i64 l[k].1,i64 l[k].2]],by rw[e];simp,t0,t2,t9,t10,rfl,by omega,?_,rfl⟩
   rw[List.take_add_one,zi a,List.all_append,b]
   simp only[Option.toList_some,List.all_cons,List.all_nil,c,Bool.and_self]
 ·have a:k=l.length:=by
   have:¬ (k:Int)<l.length:=by simpa using f
   omega
  have d:l.all rok=true:=by rw[a,zZ] at b;exact b
  simp only[go_sem,t0,m.rows,zb]
  refine zP (by decide) (λn T h'=>∃(k:Nat) (out:qt) (L:List Ob),h'=h++(Ob.box 24 [i64 out.1,i64 out.2]::L)/\jo out/\T 2= .ptr h.length 0/\T 20=x/\T 21=i64 l.length/\T 22=i64 k/\k<=l.length/\WK (0,1) l=WK out (l.drop k)/\n=l.length - k) l.length
   ⟨0,(0,1),L,e,⟨⟨by decide,by decide⟩,⟨by decide,by decide⟩⟩,by simp only[go_sem,t2],by simp only[go_sem],by simp only[go_sem],by(simp only[go_sem]<;>rfl),by omega,rfl,rfl⟩ ?_
  clear m t0 t2 t9 t10 g E a f e b
  clear k L h' T
  rintro n T h' ⟨k,out,L,e,u,t2,q,o,t22,E,s,rfl⟩
  have m:SlOf h' x 2 (l.map jP):=by subst e;exact z.app _
  simp only[go_sem,q,o,t22]
  refine ways (λf=>?_) (λf=>?_)
  ·have a:k<l.length:=by simpa using f
   have v:=m.at (i:=k) (by simpa using a)
   have w:(l.map jP)[k]? =some (jP l[k]):=by simp[a]
   have j:(k:Int)<l.length:=by omega
   have t:∀M,(h'++M)[h.length]? =some (Ob.box 24 [i64 out.1,i64 out.2]):=λM=>by subst e;simp only[go_sem]
   simp only[go_sem,v,m.rows,w,j,t2,t,q,o,t22,Int.toNat_natCast,zh,zb,jP]
   refine zg (c63 out l[k] u (y _ (zD a)) _) ?_
   rintro _ C ⟨rfl,A⟩
   subst A
   simp only[go_sem,t2,t]
   refine ways (λc=>?_) (λc=>?_)
   ·simp only[bne_iff_ne,ne_eq] at c
    subst e
    simp only[go_sem,t2]
    rw[qI a] at s
    refine zm ?_<;>(simp only[go_sem,t2,yS,d,s,WK,c]<;>try rfl)
   ·simp only[bne_eq_false_iff_eq] at c
    simp only[go_sem,t22,xx (show k<9223372036854775807 by omega)]
    subst e
    refine⟨l.length - (k+1),by omega,k+1,(Ze ZQa out l[k]).1,L++[Ob.box 24 [i64 l[k].1,i64 l[k].2]],by simp only[go_sem],KE _ _ _,t2,q,o,rfl,by omega,?_,rfl⟩
    rw[s,qI a]
    simp[WK,c]
  ·have a:k=l.length:=by
    have:¬ (k:Int)<l.length:=by simpa using f
    omega
   rw[a,List.drop_length] at s
   subst e
   simp only[go_sem,t2]
   refine zm ?_<;>(simp only[go_sem,t2,yS,d,s,WK]<;>try rfl)
attribute [go_sem] KGa KIa Zla KJa KKa KLa Q4a Q3a Q5a
def Zy(h:List Ob)(f:FuncId)(cs:List AV)(arg:List AV->AV)(rows:List (List AV))(p:List AV->Bool):Prop:=
 ∀row∈rows,∀L,ACalls Tryz.prog f ([arg row]++cs) (h++L) λr h'=>r=bl (p row)/\h'=h++L
def JB(rows:List (List AV))(p:List AV->Bool):Int:=match rows.findIdx? p with
 | some i=>(i:Int)
 | none=> -1
theorem wK{rows:List (List AV)}{p:List AV->Bool}{k:Nat}(c:k<rows.length)(h0:∀j (a:j<k),p (rows[j]'(by omega))=false)(b:p rows[k]=true):JB rows p=k:=by
 unfold JB
 rw[List.findIdx?_eq_some_iff_getElem.2 ⟨c,b,λj a=>by simp[h0 j a]⟩]
theorem yj{rows:List (List AV)}{p:List AV->Bool}(h0:∀j (a:j<rows.length),p rows[j]=false):JB rows p= -1:=by
 unfold JB
 rw[List.findIdx?_eq_none_iff.2 λx b=>by obtain⟨j,a,e⟩:=List.getElem_of_mem b;rw[<-e];exact h0 j a]
theorem yG(rows:List (List AV))(p:List AV->Bool):decide (JB rows p≥0)=rows.any p:=by
 unfold JB
 cases h:rows.findIdx? p with
 | some i=>
   obtain⟨hi,b,_⟩:=List.findIdx?_eq_some_iff_getElem.1 h
   have:rows.any p=true:=List.any_eq_true.2 ⟨_,zD hi,b⟩
   rw[this]
   simp
 | none=>
   have:=List.findIdx?_eq_none_iff.1 h
   have:rows.any p=false:=List.any_eq_false.2 λx a=>by simp[this x a]
   rw[this]
   simp
abbrev agA(row:List AV):AV:= .ag row
abbrev K8a(row:List AV):AV:=nth row 0
theorem qwb(h:List Ob)(x:AV)(f:FuncId)(cs:List AV)(rows:List (List AV))(p:List AV->Bool)(A:rows.length<9223372036854775808)(t:∀r∈rows,r.length=1)(s:SlOf h x 1 rows)(v:Zy h f cs K8a rows p):
  ACalls Tryz.prog 223 [x,.fn (.func f) [] cs] h λr h'=>r=i64 (JB rows p)/\h'=h:=by
 refine zj Tryz.f223 [.tmp 4] 19 rfl rfl rfl rfl rfl rfl (by decide) (⟨_,_,⟨rfl,rfl⟩,.refl⟩) λB=>?_
 simp only[go_sem,s.rows]
 refine zP (by decide) (λn T h'=>h'=h/\∃k:Nat,T 0=x/\T 1= .fn (.func f) [] cs/\T 7=i64 rows.length/\T 8=i64 k/\k<=rows.length/\(∀j (e:j<rows.length),j<k->p rows[j]=false)/\n=rows.length - k) rows.length
  ⟨rfl,0,by simp only[go_sem],by simp only[go_sem],by simp only[go_sem],by(simp only[go_sem]<;>rfl),by omega,λ_ _ h=>by omega,rfl⟩ ?_
 rintro n T h' ⟨rfl,k,t0,t1,o,t8,C,h0,rfl⟩
 simp only[go_sem,o,t8]
 refine ways (λq=>?_) (λq=>?_)
 ·have a:k<rows.length:=by simpa using q
  have m:=s.at a
  have b:rows[k]? =some rows[k]:=zi a
  have l:(k:Int)<rows.length:=by omega
  have u:=t rows[k] (zD a)
  obtain⟨a0,c⟩:∃a0,rows[k]=[a0]:=by
   match hr:rows[k],u with
   | [a0],_=>exact⟨_,rfl⟩
  have d:=v rows[k] (zD a) []
  rw[c] at b d
  simp only[zF,List.cons_append,List.nil_append,K8a,nth] at d
  simp only[go_sem,m,s.rows,b,l,t0,t1,o,t8,Int.toNat_natCast,zh]
  refine zg d ?_
  rintro _ z ⟨rfl,y⟩
  subst y
  simp only[go_sem]
  refine ways (λg=>?_) (λg=>?_)
  ·simp only[go_sem,t8]
   rw[<-c] at g
   refine zm ?_<;>(simp only[go_sem,t8,wK a (λj e=>h0 j (by omega) e) g]<;>try rfl)
  ·simp only[go_sem,t8,xx (show k<9223372036854775807 by omega)]
   rw[<-c] at g
   refine⟨rows.length - (k+1),by omega,k+1,t0,t1,o,rfl,by omega,λj e w=>?_,rfl⟩
   rcases Nat.lt_or_ge j k with i|i
   ·exact h0 j e i
   ·have:j=k:=by omega
    subst this
    exact g
 ·have a:k=rows.length:=by
   have:¬ (k:Int)<rows.length:=by simpa using q
   omega
  simp only[go_sem]
  refine zm ?_<;>(simp only[go_sem,yj λj e=>h0 j e (by omega)]<;>try rfl)
theorem c98(h:List Ob)(x:AV)(f:FuncId)(cs:List AV)(rows:List (List AV))(p:List AV->Bool)(e:rows.length<9223372036854775808)(c:∀r∈rows,r.length=1)(d:SlOf h x 1 rows)(b:Zy h f cs K8a rows p):
  ACalls Tryz.prog 210 [x,.fn (.func f) [] cs] h λr h'=>r=bl (rows.any p)/\h'=h:=by
 refine zj Tryz.f210 [.tmp 4] 9 rfl rfl rfl rfl rfl rfl (by decide) (⟨_,_,⟨rfl,rfl⟩,.refl⟩) λB=>?_
 simp only[go_sem]
 refine zg (qwb h x f cs rows p e c d b) ?_
 rintro _ g ⟨rfl,a⟩
 subst a
 simp only[go_sem,yG]
 refine zm ?_<;>(simp only[go_sem,yG]<;>try rfl)
theorem xeb(h:List Ob)(x:AV)(f:FuncId)(cs:List AV)(rows:List (List AV))(p:List AV->Bool)(A:rows.length<9223372036854775808)(t:∀r∈rows,r.length=2)(s:SlOf h x 2 rows)(v:Zy h f cs agA rows p):
  ACalls Tryz.prog 259 [x,.fn (.func f) [] cs] h λr h'=>r=i64 (JB rows p)/\h'=h:=by
 refine zj Tryz.f259 [.tmp 4] 19 rfl rfl rfl rfl rfl rfl (by decide) (⟨_,_,⟨rfl,rfl⟩,.refl⟩) λB=>?_
 simp only[go_sem,s.rows]
 refine zP (by decide) (λn T h'=>h'=h/\∃k:Nat,T 0=x/\T 1= .fn (.func f) [] cs/\T 7=i64 rows.length/\T 8=i64 k/\k<=rows.length/\(∀j (e:j<rows.length),j<k->p rows[j]=false)/\n=rows.length - k) rows.length
  ⟨rfl,0,by simp only[go_sem],by simp only[go_sem],by simp only[go_sem],by(simp only[go_sem]<;>rfl),by omega,λ_ _ h=>by omega,rfl⟩ ?_
 rintro n T h' ⟨rfl,k,t0,t1,o,t8,C,h0,rfl⟩
 simp only[go_sem,o,t8]
 refine ways (λq=>?_) (λq=>?_)
 ·have a:k<rows.length:=by simpa using q
  have m:=s.at a
  have b:rows[k]? =some rows[k]:=zi a
  have l:(k:Int)<rows.length:=by omega
  have u:=t rows[k] (zD a)
  obtain⟨a0,a1,c⟩:∃a0 a1,rows[k]=[a0,a1]:=by
   match hr:rows[k],u with
   | [a0,a1],_=>exact⟨_,_,rfl⟩
  have d:=v rows[k] (zD a) []
  rw[c] at b d
  simp only[zF,List.cons_append,List.nil_append,agA,nth] at d
  simp only[go_sem,m,s.rows,b,l,t0,t1,o,t8,Int.toNat_natCast,zh]
  refine zg d ?_
  rintro _ z ⟨rfl,y⟩
  subst y
  simp only[go_sem]
  refine ways (λg=>?_) (λg=>?_)
  ·simp only[go_sem,t8]
   rw[<-c] at g
   refine zm ?_<;>(simp only[go_sem,t8,wK a (λj e=>h0 j (by omega) e) g]<;>try rfl)
  ·simp only[go_sem,t8,xx (show k<9223372036854775807 by omega)]
   rw[<-c] at g
   refine⟨rows.length - (k+1),by omega,k+1,t0,t1,o,rfl,by omega,λj e w=>?_,rfl⟩
   rcases Nat.lt_or_ge j k with i|i
   ·exact h0 j e i
   ·have:j=k:=by omega
    subst this
    exact g
 ·have a:k=rows.length:=by
   have:¬ (k:Int)<rows.length:=by simpa using q
   omega
  simp only[go_sem]
  refine zm ?_<;>(simp only[go_sem,yj λj e=>h0 j e (by omega)]<;>try rfl)
theorem xfb(h:List Ob)(x:AV)(f:FuncId)(cs:List AV)(rows:List (List AV))(p:List AV->Bool)(e:rows.length<9223372036854775808)(c:∀r∈rows,r.length=2)(d:SlOf h x 2 rows)(b:Zy h f cs agA rows p):
  ACalls Tryz.prog 213 [x,.fn (.func f) [] cs] h λr h'=>r=bl (rows.any p)/\h'=h:=by
 refine zj Tryz.f213 [.tmp 4] 9 rfl rfl rfl rfl rfl rfl (by decide) (⟨_,_,⟨rfl,rfl⟩,.refl⟩) λB=>?_
 simp only[go_sem]
 refine zg (xeb h x f cs rows p e c d b) ?_
 rintro _ g ⟨rfl,a⟩
 subst a
 simp only[go_sem,yG]
 refine zm ?_<;>(simp only[go_sem,yG]<;>try rfl)
theorem xgb(h:List Ob)(x:AV)(f:FuncId)(cs:List AV)(rows:List (List AV))(p:List AV->Bool)(A:rows.length<9223372036854775808)(t:∀r∈rows,r.length=3)(s:SlOf h x 3 rows)(v:Zy h f cs agA rows p):
  ACalls Tryz.prog 212 [x,.fn (.func f) [] cs] h λr h'=>r=i64 (JB rows p)/\h'=h:=by
 refine zj Tryz.f212 [.tmp 4] 19 rfl rfl rfl rfl rfl rfl (by decide) (⟨_,_,⟨rfl,rfl⟩,.refl⟩) λB=>?_
 simp only[go_sem,s.rows]
 refine zP (by decide) (λn T h'=>h'=h/\∃k:Nat,T 0=x/\T 1= .fn (.func f) [] cs/\T 7=i64 rows.length/\T 8=i64 k/\k<=rows.length/\(∀j (e:j<rows.length),j<k->p rows[j]=false)/\n=rows.length - k) rows.length
  ⟨rfl,0,by simp only[go_sem],by simp only[go_sem],by simp only[go_sem],by(simp only[go_sem]<;>rfl),by omega,λ_ _ h=>by omega,rfl⟩ ?_
 rintro n T h' ⟨rfl,k,t0,t1,o,t8,C,h0,rfl⟩
 simp only[go_sem,o,t8]
 refine ways (λq=>?_) (λq=>?_)
 ·have a:k<rows.length:=by simpa using q
  have m:=s.at a
  have b:rows[k]? =some rows[k]:=zi a
  have l:(k:Int)<rows.length:=by omega
  have u:=t rows[k] (zD a)
  obtain⟨a0,a1,a2,c⟩:∃a0 a1 a2,rows[k]=[a0,a1,a2]:=by
   match hr:rows[k],u with
   | [a0,a1,a2],_=>exact⟨_,_,_,rfl⟩
  have d:=v rows[k] (zD a) []
  rw[c] at b d
  simp only[zF,List.cons_append,List.nil_append,agA,nth] at d
  simp only[go_sem,m,s.rows,b,l,t0,t1,o,t8,Int.toNat_natCast,zh]
  refine zg d ?_
  rintro _ z ⟨rfl,y⟩
  subst y
  simp only[go_sem]
  refine ways (λg=>?_) (λg=>?_)
  ·simp only[go_sem,t8]
   rw[<-c] at g
   refine zm ?_<;>(simp only[go_sem,t8,wK a (λj e=>h0 j (by omega) e) g]<;>try rfl)
  ·simp only[go_sem,t8,xx (show k<9223372036854775807 by omega)]
   rw[<-c] at g
   refine⟨rows.length - (k+1),by omega,k+1,t0,t1,o,rfl,by omega,λj e w=>?_,rfl⟩
   rcases Nat.lt_or_ge j k with i|i
   ·exact h0 j e i
   ·have:j=k:=by omega
    subst this
    exact g
 ·have a:k=rows.length:=by
   have:¬ (k:Int)<rows.length:=by simpa using q
   omega
  simp only[go_sem]
  refine zm ?_<;>(simp only[go_sem,yj λj e=>h0 j e (by omega)]<;>try rfl)
theorem c78(h:List Ob)(x:AV)(f:FuncId)(cs:List AV)(rows:List (List AV))(p:List AV->Bool)(e:rows.length<9223372036854775808)(c:∀r∈rows,r.length=3)(d:SlOf h x 3 rows)(b:Zy h f cs agA rows p):
  ACalls Tryz.prog 143 [x,.fn (.func f) [] cs] h λr h'=>r=bl (rows.any p)/\h'=h:=by
 refine zj Tryz.f143 [.tmp 4] 9 rfl rfl rfl rfl rfl rfl (by decide) (⟨_,_,⟨rfl,rfl⟩,.refl⟩) λB=>?_
 simp only[go_sem]
 refine zg (xgb h x f cs rows p e c d b) ?_
 rintro _ g ⟨rfl,a⟩
 subst a
 simp only[go_sem,yG]
 refine zm ?_<;>(simp only[go_sem,yG]<;>try rfl)
theorem xhb(h:List Ob)(x:AV)(f:FuncId)(cs:List AV)(rows:List (List AV))(p:List AV->Bool)(A:rows.length<9223372036854775808)(t:∀r∈rows,r.length=4)(s:SlOf h x 4 rows)(v:Zy h f cs agA rows p):
  ACalls Tryz.prog 215 [x,.fn (.func f) [] cs] h λr h'=>r=i64 (JB rows p)/\h'=h:=by
 refine zj Tryz.f215 [.tmp 4] 19 rfl rfl rfl rfl rfl rfl (by decide) (⟨_,_,⟨rfl,rfl⟩,.refl⟩) λB=>?_
 simp only[go_sem,s.rows]
 refine zP (by decide) (λn T h'=>h'=h/\∃k:Nat,T 0=x/\T 1= .fn (.func f) [] cs/\T 7=i64 rows.length/\T 8=i64 k/\k<=rows.length/\(∀j (e:j<rows.length),j<k->p rows[j]=false)/\n=rows.length - k) rows.length
  ⟨rfl,0,by simp only[go_sem],by simp only[go_sem],by simp only[go_sem],by(simp only[go_sem]<;>rfl),by omega,λ_ _ h=>by omega,rfl⟩ ?_
 rintro n T h' ⟨rfl,k,t0,t1,o,t8,C,h0,rfl⟩
 simp only[go_sem,o,t8]
 refine ways (λq=>?_) (λq=>?_)
 ·have a:k<rows.length:=by simpa using q
  have m:=s.at a
  have b:rows[k]? =some rows[k]:=zi a
  have l:(k:Int)<rows.length:=by omega
  have u:=t rows[k] (zD a)
  obtain⟨a0,a1,a2,a3,c⟩:∃a0 a1 a2 a3,rows[k]=[a0,a1,a2,a3]:=by
   match hr:rows[k],u with
   | [a0,a1,a2,a3],_=>exact⟨_,_,_,_,rfl⟩
  have d:=v rows[k] (zD a) []
  rw[c] at b d
  simp only[zF,List.cons_append,List.nil_append,agA,nth] at d
  simp only[go_sem,m,s.rows,b,l,t0,t1,o,t8,Int.toNat_natCast,zh]
  refine zg d ?_
  rintro _ z ⟨rfl,y⟩
  subst y
  simp only[go_sem]
  refine ways (λg=>?_) (λg=>?_)
  ·simp only[go_sem,t8]
   rw[<-c] at g
   refine zm ?_<;>(simp only[go_sem,t8,wK a (λj e=>h0 j (by omega) e) g]<;>try rfl)
  ·simp only[go_sem,t8,xx (show k<9223372036854775807 by omega)]
   rw[<-c] at g
   refine⟨rows.length - (k+1),by omega,k+1,t0,t1,o,rfl,by omega,λj e w=>?_,rfl⟩
   rcases Nat.lt_or_ge j k with i|i
   ·exact h0 j e i
   ·have:j=k:=by omega
    subst this
    exact g
 ·have a:k=rows.length:=by
   have:¬ (k:Int)<rows.length:=by simpa using q
   omega
  simp only[go_sem]
  refine zm ?_<;>(simp only[go_sem,yj λj e=>h0 j e (by omega)]<;>try rfl)
theorem c81(h:List Ob)(x:AV)(f:FuncId)(cs:List AV)(rows:List (List AV))(p:List AV->Bool)(e:rows.length<9223372036854775808)(c:∀r∈rows,r.length=4)(d:SlOf h x 4 rows)(b:Zy h f cs agA rows p):
  ACalls Tryz.prog 146 [x,.fn (.func f) [] cs] h λr h'=>r=bl (rows.any p)/\h'=h:=by
 refine zj Tryz.f146 [.tmp 4] 9 rfl rfl rfl rfl rfl rfl (by decide) (⟨_,_,⟨rfl,rfl⟩,.refl⟩) λB=>?_
 simp only[go_sem]
 refine zg (xhb h x f cs rows p e c d b) ?_
 rintro _ g ⟨rfl,a⟩
 subst a
 simp only[go_sem,yG]
 refine zm ?_<;>(simp only[go_sem,yG]<;>try rfl)
theorem c42(h:List Ob)(x:AV)(f:FuncId)(cs:List AV)(rows:List (List AV))(p:List AV->Bool)(F:rows.length<9223372036854775808)(y:∀r∈rows,r.length=11)(v:SlOf h x 11 rows)(A:Zy h f cs agA rows p):
  ACalls Tryz.prog 61 [x,.fn (.func f) [] cs] h λr h'=>r=i64 (JB rows p)/\h'=h:=by
 refine zj Tryz.f61 [.tmp 4] 19 rfl rfl rfl rfl rfl rfl (by decide) (⟨_,_,⟨rfl,rfl⟩,.refl⟩) λB=>?_
 simp only[go_sem,v.rows]
 refine zP (by decide) (λn T h'=>h'=h/\∃k:Nat,T 0=x/\T 1= .fn (.func f) [] cs/\T 7=i64 rows.length/\T 8=i64 k/\k<=rows.length/\(∀j (g:j<rows.length),j<k->p rows[j]=false)/\n=rows.length - k) rows.length
  ⟨rfl,0,by simp only[go_sem],by simp only[go_sem],by simp only[go_sem],by(simp only[go_sem]<;>rfl),by omega,λ_ _ h=>by omega,rfl⟩ ?_
 rintro n T h' ⟨rfl,k,t0,t1,s,t8,G,h0,rfl⟩
 simp only[go_sem,s,t8]
 refine ways (λu=>?_) (λu=>?_)
 ·have a:k<rows.length:=by simpa using u
  have q:=v.at a
  have b:rows[k]? =some rows[k]:=zi a
  have m:(k:Int)<rows.length:=by omega
  have z:=y rows[k] (zD a)
  obtain⟨a0,a1,a2,a3,a4,a5,w,t,o,a9,c,d⟩:∃a0 a1 a2 a3 a4 a5 w t o a9 c,rows[k]=[a0,a1,a2,a3,a4,a5,w,t,o,a9,c]:=by
   match hr:rows[k],z with
   | [a0,a1,a2,a3,a4,a5,w,t,o,a9,c],_=>exact⟨_,_,_,_,_,_,_,_,_,_,_,rfl⟩
  have e:=A rows[k] (zD a) []
  rw[d] at b e
  simp only[zF,List.cons_append,List.nil_append,agA,nth] at e
  simp only[go_sem,q,v.rows,b,m,t0,t1,s,t8,Int.toNat_natCast,zh]
  refine zg e ?_
  rintro _ E ⟨rfl,D⟩
  subst D
  simp only[go_sem]
  refine ways (λi=>?_) (λi=>?_)
  ·simp only[go_sem,t8]
   rw[<-d] at i
   refine zm ?_<;>(simp only[go_sem,t8,wK a (λj g=>h0 j (by omega) g) i]<;>try rfl)
  ·simp only[go_sem,t8,xx (show k<9223372036854775807 by omega)]
   rw[<-d] at i
   refine⟨rows.length - (k+1),by omega,k+1,t0,t1,s,rfl,by omega,λj g C=>?_,rfl⟩
   rcases Nat.lt_or_ge j k with l|l
   ·exact h0 j g l
   ·have:j=k:=by omega
    subst this
    exact i
 ·have a:k=rows.length:=by
   have:¬ (k:Int)<rows.length:=by simpa using u
   omega
  simp only[go_sem]
  refine zm ?_<;>(simp only[go_sem,yj λj g=>h0 j g (by omega)]<;>try rfl)
