import Derived.Test.YtigdlmpjijhpaaaGreatKA
import Derived.Test.YtigdlmpjijhpaaaGreatK11
import Derived.Test.YtigdlmpjijhpaaaGreatK10
import Derived.IntWalk
set_option linter.all false
namespace Go.Proofs.YtigdlmpjijhpaaaGreat.Ax
open Go Go.Proofs
set_option maxRecDepth 100000
attribute [go_sem] ty3 ty4 Vla YYa YZa
abbrev i64(n:Int):AV:= .v (.int .i64 n)
abbrev bl(b:Bool):AV:= .v (.bool b)
abbrev YDa(n d:Int):AV:= .ag [i64 n,i64 d]
abbrev wr(n:Int):Int:=IntKind.wrap .i64 n
theorem c52:xA Tryz.prog 202 [] (YDa 0 1):=λh=>by
 refine zi Tryz.f202 [.cell 0 24] 2 rfl rfl rfl rfl rfl rfl (by decide) (⟨_,_,⟨rfl,rfl⟩,.refl⟩) λB=>?_
 simp only[go_sem]
 refine zn ?_<;>(simp only[go_sem]<;>try rfl)
def JW(n:Int):Int:=if n= -9223372036854775808 then 4611686018427387904 else if n<0 then wr (0 - n) else n
theorem c84(n:Int):xA Tryz.prog 258 [i64 n] (i64 (JW n)):=λh=>by
 refine zi Tryz.f258 [.tmp 2] 12 rfl rfl rfl rfl rfl rfl (by decide) (⟨_,_,⟨rfl,rfl⟩,.refl⟩) λB=>?_
 simp only[go_sem]
 refine ways (λe=>?_) (λe=>?_)
 ·simp only[beq_iff_eq] at e
  refine zn ?_<;>(simp only[go_sem,JW,e]<;>try rfl)
 ·simp only[beq_eq_false_iff_ne,ne_eq] at e
  simp only[go_sem]
  refine ways (λa=>?_) (λa=>?_)
  ·simp only[decide_eq_true_eq] at a
   simp only[go_sem]
   refine zn ?_<;>(simp only[go_sem,JW,e,a]<;>try rfl)
  ·simp only[decide_eq_false_iff_not] at a
   simp only[go_sem]
   refine zn ?_<;>(simp only[go_sem,JW,e,a]<;>try rfl)
def Fit(n:Int):Prop:= -9223372036854775808<=n/\n<=9223372036854775807
theorem qp{n:Int}(h:Fit n):wr n=n:=Go.IntWalk.i64_in n h
theorem yua{n:Int}(h:Fit n):0<=JW n:=by
 unfold JW
 split
 ·omega
 ·split
  ·rw[qp (by unfold Fit at *; omega)];omega
  ·omega
def WW(a b:Int):Int:=(Nat.gcd (JW a).toNat (JW b).toNat:Int)
theorem c53(a b:Int)(i:Fit a)(g:Fit b):xA Tryz.prog 204 [i64 a,i64 b] (i64 (WW a b)):=λh=>by
 refine zi Tryz.f204 [.tmp 4] 16 rfl rfl rfl rfl rfl rfl (by decide) (⟨_,_,⟨rfl,rfl⟩,.refl⟩) λB=>?_
 simp only[go_sem]
 refine zg (c84 a h) ?_
 rintro _ _ ⟨rfl,rfl⟩
 simp only[go_sem]
 refine zg (c84 b _) ?_
 rintro _ _ ⟨rfl,rfl⟩
 simp only[go_sem]
 rename_i h
 refine zI (by decide) (λn T h'=>h'=h/\∃x y:Nat,T 0=i64 x/\T 1=i64 y/\Nat.gcd x y=Nat.gcd (JW a).toNat (JW b).toNat/\y=n) _ ⟨rfl,(JW a).toNat,(JW b).toNat,?_,?_,rfl,rfl⟩ ?_
 ·simp only[go_sem,Int.toNat_of_nonneg (yua i)]
 ·simp only[go_sem,Int.toNat_of_nonneg (yua g)]
 rintro n T h ⟨rfl,x,y,h0,f,d,rfl⟩
 simp only[go_sem,h0,f]
 refine ways (λe=>?_) (λe=>?_)
 ·simp only[go_sem]
  have hyp:0<y:=by simpa using e
  have c:¬ (y:Int)=0:=by omega
  refine zL rfl [] 0 [(0,0,[]),(1,0,[]),(2,0,[]),(3,0,[]),(4,0,[]),(5,0,[])] rfl (by decide) (by decide) ?_
  simp only[go_sem,h0,f,c]
  refine⟨x % y,Nat.mod_lt _ hyp,y,x % y,rfl,by rw[Int.ofNat_tmod],?_,rfl⟩
  rw[<-d,Nat.gcd_comm y, <-Nat.gcd_rec,Nat.gcd_comm]
 ·simp only[go_sem]
  have c:y=0:=by simpa using e
  subst c
  rw[Nat.gcd_zero_right] at d
  simp only[go_sem,h0]
  refine zn ?_<;>(simp only[go_sem,WW,h0,d]<;>try rfl)
theorem Xma{a b:Int}(c:Fit b)(h:0<b):0<WW a b:=by
 have:JW b=b:=by
  unfold JW
  split
  ·omega
  ·split<;>omega
 unfold WW
 rw[this]
 have:=Nat.gcd_pos_of_pos_right (JW a).toNat (show 0<b.toNat by omega)
 omega
abbrev qx:=Int × Int
abbrev rat(p:qx):AV:=YDa p.1 p.2
def make(n d:Int):qx × Int:=
 if d<=0 then((0,0),20) else if n=0 then((0,1),0) else
  if wr (n.tdiv (WW n d))>2147483647∨wr (n.tdiv (WW n d))< -2147483647∨wr (d.tdiv (WW n d))>2147483647 then((0,0),10) else((wr (n.tdiv (WW n d)),wr (d.tdiv (WW n d))),0)
abbrev KY(p:qx × Int):AV:= .tup [rat p.1,i64 p.2]
theorem c18(n d:Int)(j:Fit n)(i:Fit d):xA Tryz.prog 129 [i64 n,i64 d] (KY (make n d)):=λh=>by
 refine zi Tryz.f129 [.cell 4 24,.tmp 5] 36 rfl rfl rfl rfl rfl rfl (by decide) (⟨_,_,⟨rfl,rfl⟩,.refl⟩) λB=>?_
 simp only[go_sem]
 refine ways (λe=>?_) (λe=>?_)
 ·simp only[decide_eq_true_eq] at e
  simp only[go_sem]
  refine zn ?_<;>(simp only[go_sem,make,e]<;>try rfl)
 simp only[decide_eq_false_iff_not] at e
 simp only[go_sem]
 refine ways (λf=>?_) (λf=>?_)
 ·simp only[beq_iff_eq] at f
  simp only[go_sem]
  refine zg (c52 _) ?_
  rintro _ _ ⟨rfl,rfl⟩
  simp only[go_sem]
  refine zn ?_<;>(simp only[go_sem,make,e,f]<;>try rfl)
 simp only[beq_eq_false_iff_ne,ne_eq] at f
 simp only[go_sem]
 refine zg (c53 n d j i _) ?_
 rintro _ _ ⟨rfl,rfl⟩
 simp only[go_sem]
 refine zL rfl [] 0 [(0,0,[]),(1,0,[]),(2,0,[]),(3,0,[]),(4,0,[]),(5,0,[]),(6,0,[]),(7,0,[])] rfl (by decide) (by decide) ?_
 have k:¬ WW n d=0:=by have:=Xma (a:=n) i (by omega);omega
 simp only[go_sem,k]
 refine ways (λb=>?_) (λb=>?_)
 ·have b:=vq b
  simp only[go_sem,b]
  refine ways (λc=>?_) (λc=>?_)
  ·have c:=vq c
   simp only[go_sem,c]
   refine ways (λg=>?_) (λg=>?_)
   ·simp only[go_sem]
    simp only[decide_eq_true_eq,decide_eq_false_iff_not] at b c g
    refine zn ?_<;>(simp only[go_sem,make,e,f,b,c,g,or_true]<;>try rfl)
   ·simp only[go_sem]
    simp only[decide_eq_true_eq,decide_eq_false_iff_not] at b c g
    refine zn ?_<;>(simp only[go_sem,make,e,f,b,c,g,or_self]<;>try rfl)
  ·have c:=vp c
   simp only[go_sem,c]
   simp only[decide_eq_true_eq,decide_eq_false_iff_not] at b c
   refine zn ?_<;>(simp only[go_sem,make,e,f,b,c,true_or,or_true]<;>try rfl)
 ·have b:=vp b
  simp only[go_sem,b]
  simp only[decide_eq_true_eq] at b
  refine zn ?_<;>(simp only[go_sem,make,e,f,b,true_or]<;>try rfl)
def rok(p:qx):Bool:=(make p.1 p.2).2==0 && ((make p.1 p.2).1.1==p.1 && (make p.1 p.2).1.2==p.2)
theorem c27(p:qx)(b:Fit p.1)(a:Fit p.2):xA Tryz.prog 133 [rat p] (bl (rok p)):=λh=>by
 refine zi Tryz.f133 [.tmp 2] 20 rfl rfl rfl rfl rfl rfl (by decide) (⟨_,_,⟨rfl,rfl⟩,.refl⟩) λB=>?_
 simp only[go_sem]
 refine zg (c18 p.1 p.2 b a _) ?_
 rintro _ _ ⟨rfl,rfl⟩
 simp only[go_sem]
 refine ways (λe=>?_) (λe=>?_)
 ·have e:=xQ e
  simp only[go_sem,e]
  refine zn ?_<;>(simp only[go_sem,rok,e]<;>try rfl)
 ·have e:=xP e
  simp only[go_sem,e]
  refine zn ?_<;>(simp only[go_sem,rok,e]<;>try rfl)
theorem wF(n:Int):Fit (wr n):=by
 unfold Fit wr
 rw[IntKind.wrap_i64]
 omega
def jq(p:qx):Prop:=Fit p.1/\Fit p.2
def Two(f:FuncId)(v:qx->qx->Int × Int):Prop:=∀(h:List Ob) (i j:Nat) (a b:qx),h[i]? =some (.box 24 [i64 a.1,i64 a.2])->h[j]? =some (.box 24 [i64 b.1,i64 b.2])->
 ACalls Tryz.prog f [.ptr i 0,.ptr j 0] h λr h'=>r= .tup [i64 (v a b).1,i64 (v a b).2]/\h'=h
theorem c55:Two 206 λa b=>(wr (wr (a.1*b.2) - wr (b.1*a.2)),wr (a.2*b.2)):=λh i j a b hi c=>by
 refine zi Tryz.f206 [.tmp 2,.tmp 3] 20 rfl rfl rfl rfl rfl rfl (by decide) (⟨_,_,⟨rfl,rfl⟩,.refl⟩) λB=>?_
 simp only[go_sem]
 refine zL rfl [] 0 [(0,0,[]),(2,0,[]),(5,0,[]),(7,0,[]),(11,0,[]),(13,0,[]),(1,0,[]),(3,0,[]),(4,0,[]),(6,0,[]),(8,0,[]),(9,0,[]),(10,0,[]),(16,0,[]),(12,0,[]),(14,0,[]),(15,0,[]),(17,0,[])] rfl (by decide) (by decide) ?_
 simp only[go_sem,hi,c]
 refine zn ?_<;>(simp only[go_sem]<;>try rfl)
theorem c92:Two 257 λa b=>(wr (wr (a.1*b.2)+wr (b.1*a.2)),wr (a.2*b.2)):=λh i j a b hi c=>by
 refine zi Tryz.f257 [.tmp 2,.tmp 3] 20 rfl rfl rfl rfl rfl rfl (by decide) (⟨_,_,⟨rfl,rfl⟩,.refl⟩) λB=>?_
 simp only[go_sem]
 refine zL rfl [] 0 [(0,0,[]),(2,0,[]),(5,0,[]),(7,0,[]),(11,0,[]),(13,0,[]),(1,0,[]),(3,0,[]),(4,0,[]),(6,0,[]),(8,0,[]),(9,0,[]),(10,0,[]),(16,0,[]),(12,0,[]),(14,0,[]),(15,0,[]),(17,0,[])] rfl (by decide) (by decide) ?_
 simp only[go_sem,hi,c]
 refine zn ?_<;>(simp only[go_sem]<;>try rfl)
theorem c64:Two 256 λa b=>(wr (a.1*b.1),wr (a.2*b.2)):=λh i j a b hi c=>by
 refine zi Tryz.f256 [.tmp 2,.tmp 3] 14 rfl rfl rfl rfl rfl rfl (by decide) (⟨_,_,⟨rfl,rfl⟩,.refl⟩) λB=>?_
 simp only[go_sem]
 refine zL rfl [] 0 [(0,0,[]),(2,0,[]),(5,0,[]),(7,0,[]),(1,0,[]),(3,0,[]),(4,0,[]),(10,0,[]),(6,0,[]),(8,0,[]),(9,0,[]),(11,0,[])] rfl (by decide) (by decide) ?_
 simp only[go_sem,hi,c]
 refine zn ?_<;>(simp only[go_sem]<;>try rfl)
theorem c75:Two 207 λa b=>(wr (a.1*b.2),wr (a.2*b.1)):=λh i j a b hi c=>by
 refine zi Tryz.f207 [.tmp 2,.tmp 3] 14 rfl rfl rfl rfl rfl rfl (by decide) (⟨_,_,⟨rfl,rfl⟩,.refl⟩) λB=>?_
 simp only[go_sem]
 refine zL rfl [] 0 [(0,0,[]),(2,0,[]),(5,0,[]),(7,0,[]),(1,0,[]),(3,0,[]),(4,0,[]),(10,0,[]),(6,0,[]),(8,0,[]),(9,0,[]),(11,0,[])] rfl (by decide) (by decide) ?_
 simp only[go_sem,hi,c]
 refine zn ?_<;>(simp only[go_sem]<;>try rfl)
def Zp(v:qx->qx->Int × Int)(a b:qx):qx × Int:=if(rok a && rok b)=true then make (v a b).1 (v a b).2 else((0,0),20)
theorem c54(h:List Ob)(a b:qx)(i:jq a)(g:jq b)(f:FuncId)(cs:List AV)(n d:Int)(l:Fit n)(k:Fit d)(j:∀L,ACalls Tryz.prog f cs (h++L) λr h'=>r= .tup [i64 n,i64 d]/\h'=h++L):
  ACalls Tryz.prog 205 [rat a,rat b,.fn (.func f) [] cs] h λr h'=>r=KY (if(rok a && rok b)=true then make n d else((0,0),20))/\h'=h:=by
 refine zi Tryz.f205 [.cell 6 24,.tmp 7] 24 rfl rfl rfl rfl rfl rfl (by decide) (⟨_,_,⟨rfl,rfl⟩,.refl⟩) λB=>?_
 simp only[go_sem]
 refine zg (c27 a i.1 i.2 _) ?_
 rintro _ _ ⟨rfl,rfl⟩
 simp only[go_sem]
 refine ways (λe=>?_) (λe=>?_)
 ·have e:=vq e
  simp only[Bool.not_eq_false'] at e
  simp only[go_sem,e]
  refine zg (c27 b g.1 g.2 _) ?_
  rintro _ _ ⟨rfl,rfl⟩
  simp only[go_sem,e]
  refine ways (λc=>?_) (λc=>?_)
  ·simp only[Bool.not_eq_true'] at c
   simp only[go_sem,e,c]
   refine zn ?_<;>(simp only[go_sem,e,c]<;>try rfl)
  ·simp only[Bool.not_eq_false'] at c
   simp only[go_sem,e,c]
   refine zg (j _) ?_
   rintro _ _ ⟨rfl,rfl⟩
   simp only[go_sem]
   refine zg (c18 n d l k _) ?_
   rintro _ _ ⟨rfl,rfl⟩
   simp only[go_sem]
   refine zn ?_<;>(simp only[go_sem,e,c]<;>try rfl)
 ·have e:=vp e
  simp only[Bool.not_eq_true'] at e
  simp only[go_sem,e]
  refine zn ?_<;>(simp only[go_sem,e]<;>try rfl)
theorem VKa{f:FuncId}{v:qx->qx->Int × Int}(d:Two f v)(c:∀a b,Fit (v a b).1/\Fit (v a b).2){h:List Ob}(a b:qx)(k:jq a)(e:jq b)(i j:Nat)(hi:h[i]? =some (.box 24 [i64 a.1,i64 a.2]))(g:h[j]? =some (.box 24 [i64 b.1,i64 b.2])):
  ACalls Tryz.prog 205 [rat a,rat b,.fn (.func f) [] [.ptr i 0,.ptr j 0]] h λr h'=>r=KY (Zp v a b)/\h'=h:=
 c54 h a b k e f _ _ _ (c a b).1 (c a b).2 λL=>d _ i j a b (ze hi) (ze g)
abbrev VLa(a b:qx):Int × Int:=(wr (wr (a.1*b.2) - wr (b.1*a.2)),wr (a.2*b.2))
abbrev Z9a(a b:qx):Int × Int:=(wr (wr (a.1*b.2)+wr (b.1*a.2)),wr (a.2*b.2))
abbrev jRa(a b:qx):Int × Int:=(wr (a.1*b.1),wr (a.2*b.2))
abbrev Xna(a b:qx):Int × Int:=(wr (a.1*b.2),wr (a.2*b.1))
theorem c19(a b:qx)(d:jq a)(c:jq b):xA Tryz.prog 131 [rat a,rat b] (KY (Zp VLa a b)):=λh=>by
 refine zi Tryz.f131 [.cell 4 24,.tmp 5] 12 rfl rfl rfl rfl rfl rfl (by decide) (⟨_,_,⟨rfl,rfl⟩,.refl⟩) λB=>?_
 simp only[go_sem]
 refine zg (VKa (v:=VLa) c55 (λ_ _=>⟨wF _,wF _⟩) a b d c _ _ (by simp only[go_sem]) (by simp only[go_sem])) ?_
 rintro _ _ ⟨rfl,rfl⟩
 simp only[go_sem]
 refine zn ?_<;>(simp only[go_sem]<;>try rfl)
theorem c63(a b:qx)(d:jq a)(c:jq b):xA Tryz.prog 203 [rat a,rat b] (KY (Zp Z9a a b)):=λh=>by
 refine zi Tryz.f203 [.cell 4 24,.tmp 5] 12 rfl rfl rfl rfl rfl rfl (by decide) (⟨_,_,⟨rfl,rfl⟩,.refl⟩) λB=>?_
 simp only[go_sem]
 refine zg (VKa (v:=Z9a) c92 (λ_ _=>⟨wF _,wF _⟩) a b d c _ _ (by simp only[go_sem]) (by simp only[go_sem])) ?_
 rintro _ _ ⟨rfl,rfl⟩
 simp only[go_sem]
 refine zn ?_<;>(simp only[go_sem]<;>try rfl)
theorem c24(a b:qx)(d:jq a)(c:jq b):xA Tryz.prog 201 [rat a,rat b] (KY (Zp jRa a b)):=λh=>by
 refine zi Tryz.f201 [.cell 4 24,.tmp 5] 12 rfl rfl rfl rfl rfl rfl (by decide) (⟨_,_,⟨rfl,rfl⟩,.refl⟩) λB=>?_
 simp only[go_sem]
 refine zg (VKa (v:=jRa) c64 (λ_ _=>⟨wF _,wF _⟩) a b d c _ _ (by simp only[go_sem]) (by simp only[go_sem])) ?_
 rintro _ _ ⟨rfl,rfl⟩
 simp only[go_sem]
 refine zn ?_<;>(simp only[go_sem]<;>try rfl)
theorem c46(a b:qx)(d:jq a)(c:jq b):xA Tryz.prog 132 [rat a,rat b] (KY (Zp Xna a b)):=λh=>by
 refine zi Tryz.f132 [.cell 4 24,.tmp 5] 12 rfl rfl rfl rfl rfl rfl (by decide) (⟨_,_,⟨rfl,rfl⟩,.refl⟩) λB=>?_
 simp only[go_sem]
 refine zg (VKa (v:=Xna) c75 (λ_ _=>⟨wF _,wF _⟩) a b d c _ _ (by simp only[go_sem]) (by simp only[go_sem])) ?_
 rintro _ _ ⟨rfl,rfl⟩
 simp only[go_sem]
 refine zn ?_<;>(simp only[go_sem]<;>try rfl)
def YP(a b:qx):Bool:=rok a && rok b && decide (wr (a.1*b.2)<wr (b.1*a.2))
theorem c20(a b:qx)(f:jq a)(d:jq b):xA Tryz.prog 134 [rat a,rat b] (bl (YP a b)):=λh=>by
 refine zi Tryz.f134 [.tmp 4] 24 rfl rfl rfl rfl rfl rfl (by decide) (⟨_,_,⟨rfl,rfl⟩,.refl⟩) λB=>?_
 simp only[go_sem]
 refine zg (c27 a f.1 f.2 _) ?_
 rintro _ _ ⟨rfl,rfl⟩
 simp only[go_sem]
 refine ways (λe=>?_) (λe=>?_)
 ·have e:=xQ e
  simp only[go_sem,e]
  refine zg (c27 b d.1 d.2 _) ?_
  rintro _ _ ⟨rfl,rfl⟩
  simp only[go_sem,e]
  refine ways (λc=>?_) (λc=>?_)
  ·have c:=xQ c
   simp only[go_sem,e,c]
   refine zn ?_<;>(simp only[go_sem,YP,e,c]<;>try rfl)
  ·have c:=xP c
   simp only[go_sem,e,c]
   refine zn ?_<;>(simp only[go_sem,YP,e,c]<;>try rfl)
 ·have e:=xP e
  simp only[go_sem,e]
  refine zn ?_<;>(simp only[go_sem,YP,e]<;>try rfl)
attribute [go_sem] Jya
theorem xF{k:Nat}(h:k<9223372036854775807):wr ((k:Int)+1)=((k+1:Nat):Int):=by rw[qp (by unfold Fit;omega)];rfl
def jH(p:qx):List AV:=[i64 p.1,i64 p.2]
theorem Qz(n d:Int):jq (make n d).1:=by
 unfold make jq
 split
 ·exact⟨⟨by decide,by decide⟩,⟨by decide,by decide⟩⟩
 ·split
  ·exact⟨⟨by decide,by decide⟩,⟨by decide,by decide⟩⟩
  ·split
   ·exact⟨⟨by decide,by decide⟩,⟨by decide,by decide⟩⟩
   ·exact⟨wF _,wF _⟩
theorem KZ(v:qx->qx->Int × Int)(a b:qx):jq (Zp v a b).1:=by
 unfold Zp
 split
 ·exact Qz _ _
 ·exact⟨⟨by decide,by decide⟩,⟨by decide,by decide⟩⟩
def WX:qx->List qx->qx × Int
 | out,[]=>(out,0)
 | out,r::l=>if(Zp Z9a out r).2≠0 then((0,0),(Zp Z9a out r).2) else WX (Zp Z9a out r).1 l
def Za(l:List qx):qx × Int:=if l.all rok then WX (0,1) l else((0,0),20)
theorem c23(h:List Ob)(x:AV)(l:List qx)(A:∀p∈l,jq p)(D:l.length<1099511627776)(u:SlOf h x 2 (l.map jH)):
  ACalls Tryz.prog 128 [x] h λr h'=>r=KY (Za l)/\h'=h:=by
 refine zi Tryz.f128 [.cell 2 24,.tmp 3] 38 rfl rfl rfl rfl rfl rfl (by decide) (⟨_,_,⟨rfl,rfl⟩,.refl⟩) λB=>?_
 simp only[go_sem]
 refine zg (c52 _) ?_
 rintro _ C ⟨rfl,f⟩
 subst f
 have F:∀L,qa (h++L) x=some (l.map jH):=λL=>(u.app L).rows
 simp only[go_sem,F,zb]
 refine zI (by decide) (λn T h'=>∃(k:Nat) (L:List Ob),h'=h++(Ob.box 24 [i64 0,i64 1]::L)/\T 0=x/\T 2= .ptr h.length 0/\T 9=x/\T 10=i64 l.length/\T 11=i64 k/\k<=l.length/\(l.take k).all rok=true/\n=l.length - k) l.length
  ⟨0,[],rfl,by simp only[go_sem],by simp only[go_sem],by simp only[go_sem],by simp only[go_sem],by(simp only[go_sem]<;>rfl),by omega,rfl,rfl⟩ ?_
 rintro n T h' ⟨k,L,e,t0,t2,t9,t10,g,E,b,rfl⟩
 have j:SlOf h' x 2 (l.map jH):=by subst e;exact u.app _
 simp only[go_sem,t9,t10,g]
 refine ways (λf=>?_) (λf=>?_)
 ·have a:k<l.length:=by simpa using f
  have v:=j.at (i:=k) (by simpa using a)
  have z:(l.map jH)[k]? =some (jH l[k]):=by simp[a]
  have m:(k:Int)<l.length:=by omega
  simp only[go_sem,v,j.rows,z,m,t9,t10,g,Int.toNat_natCast,zh,zb,jH]
  refine zg (c27 l[k] (A _ (zy a)).1 (A _ (zy a)).2 _) ?_
  rintro _ C ⟨rfl,y⟩
  subst y
  simp only[go_sem]
  refine ways (λc=>?_) (λc=>?_)
  ·simp only[Bool.not_eq_true'] at c
   have t:∀M,(h'++M)[h.length]? =some (Ob.box 24 [i64 0,i64 1]):=λM=>by subst e;simp only[go_sem]
   simp only[go_sem,t2,t]
   subst e
   simp only[go_sem]
   have D:l.all rok=false:=by
    rw[List.all_eq_false]
    exact⟨l[k],zy a,by simp[c]⟩
   refine zn ?_<;>(simp only[go_sem,t2,Za,D]<;>try rfl)
  ·simp only[Bool.not_eq_false'] at c
   simp only[go_sem,g,xF (show k<9223372036854775807 by omega)]
   refine⟨l.length - (k+1),by omega,k+1,L++[Ob.box 24 [i64 l[k].1,i64 l[k].2]],by rw[e];simp,t0,t2,t9,t10,rfl,by omega,?_,rfl⟩
   rw[List.take_add_one,zj a,List.all_append,b]
   simp only[Option.toList_some,List.all_cons,List.all_nil,c,Bool.and_self]
 ·have a:k=l.length:=by
   have:¬ (k:Int)<l.length:=by simpa using f
   omega
  have d:l.all rok=true:=by rw[a,zP] at b;exact b
  simp only[go_sem,t0,j.rows,zb]
  refine zI (by decide) (λn T h'=>∃(k:Nat) (out:qx) (L:List Ob),h'=h++(Ob.box 24 [i64 out.1,i64 out.2]::L)/\jq out/\T 2= .ptr h.length 0/\T 20=x/\T 21=i64 l.length/\T 22=i64 k/\k<=l.length/\WX (0,1) l=WX out (l.drop k)/\n=l.length - k) l.length
   ⟨0,(0,1),L,e,⟨⟨by decide,by decide⟩,⟨by decide,by decide⟩⟩,by simp only[go_sem,t2],by simp only[go_sem],by simp only[go_sem],by(simp only[go_sem]<;>rfl),by omega,rfl,rfl⟩ ?_
  clear j t0 t2 t9 t10 g E a f e b
  clear k L h' T
  rintro n T h' ⟨k,out,L,e,w,t2,q,o,t22,E,s,rfl⟩
  have j:SlOf h' x 2 (l.map jH):=by subst e;exact u.app _
  simp only[go_sem,q,o,t22]
  refine ways (λf=>?_) (λf=>?_)
  ·have a:k<l.length:=by simpa using f
   have v:=j.at (i:=k) (by simpa using a)
   have z:(l.map jH)[k]? =some (jH l[k]):=by simp[a]
   have m:(k:Int)<l.length:=by omega
   have t:∀M,(h'++M)[h.length]? =some (Ob.box 24 [i64 out.1,i64 out.2]):=λM=>by subst e;simp only[go_sem]
   simp only[go_sem,v,j.rows,z,m,t2,t,q,o,t22,Int.toNat_natCast,zh,zb,jH]
   refine zg (c63 out l[k] w (A _ (zy a)) _) ?_
   rintro _ C ⟨rfl,y⟩
   subst y
   simp only[go_sem,t2,t]
   refine ways (λc=>?_) (λc=>?_)
   ·simp only[bne_iff_ne,ne_eq] at c
    subst e
    simp only[go_sem,t2]
    rw[qU a] at s
    refine zn ?_<;>(simp only[go_sem,t2,Za,d,s,WX,c]<;>try rfl)
   ·simp only[bne_eq_false_iff_eq] at c
    simp only[go_sem,t22,xF (show k<9223372036854775807 by omega)]
    subst e
    refine⟨l.length - (k+1),by omega,k+1,(Zp Z9a out l[k]).1,L++[Ob.box 24 [i64 l[k].1,i64 l[k].2]],by simp only[go_sem],KZ _ _ _,t2,q,o,rfl,by omega,?_,rfl⟩
    rw[s,qU a]
    simp[WX,c]
  ·have a:k=l.length:=by
    have:¬ (k:Int)<l.length:=by simpa using f
    omega
   rw[a,List.drop_length] at s
   subst e
   simp only[go_sem,t2]
   refine zn ?_<;>(simp only[go_sem,t2,Za,d,s,WX]<;>try rfl)
attribute [go_sem] Vka Vma ZDa Vna Voa Vpa JAa Jza JBa
def ZG(h:List Ob)(f:FuncId)(cs:List AV)(arg:List AV->AV)(rows:List (List AV))(p:List AV->Bool):Prop:=
 ∀row∈rows,∀L,ACalls Tryz.prog f ([arg row]++cs) (h++L) λr h'=>r=bl (p row)/\h'=h++L
def JX(rows:List (List AV))(p:List AV->Bool):Int:=match rows.findIdx? p with
 | some i=>(i:Int)
 | none=> -1
theorem wY{rows:List (List AV)}{p:List AV->Bool}{k:Nat}(b:k<rows.length)(h0:∀j (a:j<k),p (rows[j]'(by omega))=false)(c:p rows[k]=true):JX rows p=k:=by
 unfold JX
 rw[List.findIdx?_eq_some_iff_getElem.2 ⟨b,c,λj a=>by simp[h0 j a]⟩]
theorem yB{rows:List (List AV)}{p:List AV->Bool}(h0:∀j (a:j<rows.length),p rows[j]=false):JX rows p= -1:=by
 unfold JX
 rw[List.findIdx?_eq_none_iff.2 λx b=>by obtain⟨j,a,e⟩:=List.getElem_of_mem b;rw[<-e];exact h0 j a]
theorem yT(rows:List (List AV))(p:List AV->Bool):decide (JX rows p≥0)=rows.any p:=by
 unfold JX
 cases h:rows.findIdx? p with
 | some i=>
   obtain⟨hi,b,_⟩:=List.findIdx?_eq_some_iff_getElem.1 h
   have:rows.any p=true:=List.any_eq_true.2 ⟨_,zy hi,b⟩
   rw[this]
   simp
 | none=>
   have:=List.findIdx?_eq_none_iff.1 h
   have:rows.any p=false:=List.any_eq_false.2 λx a=>by simp[this x a]
   rw[this]
   simp
abbrev agA(row:List AV):AV:= .ag row
abbrev VMa(row:List AV):AV:=nth row 0
theorem jhb(h:List Ob)(x:AV)(f:FuncId)(cs:List AV)(rows:List (List AV))(p:List AV->Bool)(A:rows.length<9223372036854775808)(t:∀r∈rows,r.length=1)(l:SlOf h x 1 rows)(v:ZG h f cs VMa rows p):
  ACalls Tryz.prog 223 [x,.fn (.func f) [] cs] h λr h'=>r=i64 (JX rows p)/\h'=h:=by
 refine zi Tryz.f223 [.tmp 4] 19 rfl rfl rfl rfl rfl rfl (by decide) (⟨_,_,⟨rfl,rfl⟩,.refl⟩) λB=>?_
 simp only[go_sem,l.rows]
 refine zI (by decide) (λn T h'=>h'=h/\∃k:Nat,T 0=x/\T 1= .fn (.func f) [] cs/\T 7=i64 rows.length/\T 8=i64 k/\k<=rows.length/\(∀j (e:j<rows.length),j<k->p rows[j]=false)/\n=rows.length - k) rows.length
  ⟨rfl,0,by simp only[go_sem],by simp only[go_sem],by simp only[go_sem],by(simp only[go_sem]<;>rfl),by omega,λ_ _ h=>by omega,rfl⟩ ?_
 rintro n T h' ⟨rfl,k,t0,t1,s,t8,C,h0,rfl⟩
 simp only[go_sem,s,t8]
 refine ways (λq=>?_) (λq=>?_)
 ·have a:k<rows.length:=by simpa using q
  have o:=l.at a
  have b:rows[k]? =some rows[k]:=zj a
  have m:(k:Int)<rows.length:=by omega
  have w:=t rows[k] (zy a)
  obtain⟨a0,d⟩:∃a0,rows[k]=[a0]:=by
   match hr:rows[k],w with
   | [a0],_=>exact⟨_,rfl⟩
  have c:=v rows[k] (zy a) []
  rw[d] at b c
  simp only[zH,List.cons_append,List.nil_append,VMa,nth] at c
  simp only[go_sem,o,l.rows,b,m,t0,t1,s,t8,Int.toNat_natCast,zh]
  refine zg c ?_
  rintro _ z ⟨rfl,u⟩
  subst u
  simp only[go_sem]
  refine ways (λi=>?_) (λi=>?_)
  ·simp only[go_sem,t8]
   rw[<-d] at i
   refine zn ?_<;>(simp only[go_sem,t8,wY a (λj e=>h0 j (by omega) e) i]<;>try rfl)
  ·simp only[go_sem,t8,xF (show k<9223372036854775807 by omega)]
   rw[<-d] at i
   refine⟨rows.length - (k+1),by omega,k+1,t0,t1,s,rfl,by omega,λj e y=>?_,rfl⟩
   rcases Nat.lt_or_ge j k with g|g
   ·exact h0 j e g
   ·have:j=k:=by omega
    subst this
    exact i
 ·have a:k=rows.length:=by
   have:¬ (k:Int)<rows.length:=by simpa using q
   omega
  simp only[go_sem]
  refine zn ?_<;>(simp only[go_sem,yB λj e=>h0 j e (by omega)]<;>try rfl)
theorem c98(h:List Ob)(x:AV)(f:FuncId)(cs:List AV)(rows:List (List AV))(p:List AV->Bool)(e:rows.length<9223372036854775808)(d:∀r∈rows,r.length=1)(a:SlOf h x 1 rows)(b:ZG h f cs VMa rows p):
  ACalls Tryz.prog 210 [x,.fn (.func f) [] cs] h λr h'=>r=bl (rows.any p)/\h'=h:=by
 refine zi Tryz.f210 [.tmp 4] 9 rfl rfl rfl rfl rfl rfl (by decide) (⟨_,_,⟨rfl,rfl⟩,.refl⟩) λB=>?_
 simp only[go_sem]
 refine zg (jhb h x f cs rows p e d a b) ?_
 rintro _ g ⟨rfl,c⟩
 subst c
 simp only[go_sem,yT]
 refine zn ?_<;>(simp only[go_sem,yT]<;>try rfl)
theorem x2b(h:List Ob)(x:AV)(f:FuncId)(cs:List AV)(rows:List (List AV))(p:List AV->Bool)(A:rows.length<9223372036854775808)(t:∀r∈rows,r.length=2)(l:SlOf h x 2 rows)(v:ZG h f cs agA rows p):
  ACalls Tryz.prog 259 [x,.fn (.func f) [] cs] h λr h'=>r=i64 (JX rows p)/\h'=h:=by
 refine zi Tryz.f259 [.tmp 4] 19 rfl rfl rfl rfl rfl rfl (by decide) (⟨_,_,⟨rfl,rfl⟩,.refl⟩) λB=>?_
 simp only[go_sem,l.rows]
 refine zI (by decide) (λn T h'=>h'=h/\∃k:Nat,T 0=x/\T 1= .fn (.func f) [] cs/\T 7=i64 rows.length/\T 8=i64 k/\k<=rows.length/\(∀j (e:j<rows.length),j<k->p rows[j]=false)/\n=rows.length - k) rows.length
  ⟨rfl,0,by simp only[go_sem],by simp only[go_sem],by simp only[go_sem],by(simp only[go_sem]<;>rfl),by omega,λ_ _ h=>by omega,rfl⟩ ?_
 rintro n T h' ⟨rfl,k,t0,t1,s,t8,C,h0,rfl⟩
 simp only[go_sem,s,t8]
 refine ways (λq=>?_) (λq=>?_)
 ·have a:k<rows.length:=by simpa using q
  have o:=l.at a
  have b:rows[k]? =some rows[k]:=zj a
  have m:(k:Int)<rows.length:=by omega
  have w:=t rows[k] (zy a)
  obtain⟨a0,a1,d⟩:∃a0 a1,rows[k]=[a0,a1]:=by
   match hr:rows[k],w with
   | [a0,a1],_=>exact⟨_,_,rfl⟩
  have c:=v rows[k] (zy a) []
  rw[d] at b c
  simp only[zH,List.cons_append,List.nil_append,agA,nth] at c
  simp only[go_sem,o,l.rows,b,m,t0,t1,s,t8,Int.toNat_natCast,zh]
  refine zg c ?_
  rintro _ z ⟨rfl,u⟩
  subst u
  simp only[go_sem]
  refine ways (λi=>?_) (λi=>?_)
  ·simp only[go_sem,t8]
   rw[<-d] at i
   refine zn ?_<;>(simp only[go_sem,t8,wY a (λj e=>h0 j (by omega) e) i]<;>try rfl)
  ·simp only[go_sem,t8,xF (show k<9223372036854775807 by omega)]
   rw[<-d] at i
   refine⟨rows.length - (k+1),by omega,k+1,t0,t1,s,rfl,by omega,λj e y=>?_,rfl⟩
   rcases Nat.lt_or_ge j k with g|g
   ·exact h0 j e g
   ·have:j=k:=by omega
    subst this
    exact i
 ·have a:k=rows.length:=by
   have:¬ (k:Int)<rows.length:=by simpa using q
   omega
  simp only[go_sem]
  refine zn ?_<;>(simp only[go_sem,yB λj e=>h0 j e (by omega)]<;>try rfl)
theorem x3b(h:List Ob)(x:AV)(f:FuncId)(cs:List AV)(rows:List (List AV))(p:List AV->Bool)(e:rows.length<9223372036854775808)(d:∀r∈rows,r.length=2)(a:SlOf h x 2 rows)(b:ZG h f cs agA rows p):
  ACalls Tryz.prog 213 [x,.fn (.func f) [] cs] h λr h'=>r=bl (rows.any p)/\h'=h:=by
 refine zi Tryz.f213 [.tmp 4] 9 rfl rfl rfl rfl rfl rfl (by decide) (⟨_,_,⟨rfl,rfl⟩,.refl⟩) λB=>?_
 simp only[go_sem]
 refine zg (x2b h x f cs rows p e d a b) ?_
 rintro _ g ⟨rfl,c⟩
 subst c
 simp only[go_sem,yT]
 refine zn ?_<;>(simp only[go_sem,yT]<;>try rfl)
theorem x4b(h:List Ob)(x:AV)(f:FuncId)(cs:List AV)(rows:List (List AV))(p:List AV->Bool)(A:rows.length<9223372036854775808)(t:∀r∈rows,r.length=3)(l:SlOf h x 3 rows)(v:ZG h f cs agA rows p):
  ACalls Tryz.prog 212 [x,.fn (.func f) [] cs] h λr h'=>r=i64 (JX rows p)/\h'=h:=by
 refine zi Tryz.f212 [.tmp 4] 19 rfl rfl rfl rfl rfl rfl (by decide) (⟨_,_,⟨rfl,rfl⟩,.refl⟩) λB=>?_
 simp only[go_sem,l.rows]
 refine zI (by decide) (λn T h'=>h'=h/\∃k:Nat,T 0=x/\T 1= .fn (.func f) [] cs/\T 7=i64 rows.length/\T 8=i64 k/\k<=rows.length/\(∀j (e:j<rows.length),j<k->p rows[j]=false)/\n=rows.length - k) rows.length
  ⟨rfl,0,by simp only[go_sem],by simp only[go_sem],by simp only[go_sem],by(simp only[go_sem]<;>rfl),by omega,λ_ _ h=>by omega,rfl⟩ ?_
 rintro n T h' ⟨rfl,k,t0,t1,s,t8,C,h0,rfl⟩
 simp only[go_sem,s,t8]
 refine ways (λq=>?_) (λq=>?_)
 ·have a:k<rows.length:=by simpa using q
  have o:=l.at a
  have b:rows[k]? =some rows[k]:=zj a
  have m:(k:Int)<rows.length:=by omega
  have w:=t rows[k] (zy a)
  obtain⟨a0,a1,a2,d⟩:∃a0 a1 a2,rows[k]=[a0,a1,a2]:=by
   match hr:rows[k],w with
   | [a0,a1,a2],_=>exact⟨_,_,_,rfl⟩
  have c:=v rows[k] (zy a) []
  rw[d] at b c
  simp only[zH,List.cons_append,List.nil_append,agA,nth] at c
  simp only[go_sem,o,l.rows,b,m,t0,t1,s,t8,Int.toNat_natCast,zh]
  refine zg c ?_
  rintro _ z ⟨rfl,u⟩
  subst u
  simp only[go_sem]
  refine ways (λi=>?_) (λi=>?_)
  ·simp only[go_sem,t8]
   rw[<-d] at i
   refine zn ?_<;>(simp only[go_sem,t8,wY a (λj e=>h0 j (by omega) e) i]<;>try rfl)
  ·simp only[go_sem,t8,xF (show k<9223372036854775807 by omega)]
   rw[<-d] at i
   refine⟨rows.length - (k+1),by omega,k+1,t0,t1,s,rfl,by omega,λj e y=>?_,rfl⟩
   rcases Nat.lt_or_ge j k with g|g
   ·exact h0 j e g
   ·have:j=k:=by omega
    subst this
    exact i
 ·have a:k=rows.length:=by
   have:¬ (k:Int)<rows.length:=by simpa using q
   omega
  simp only[go_sem]
  refine zn ?_<;>(simp only[go_sem,yB λj e=>h0 j e (by omega)]<;>try rfl)
theorem c78(h:List Ob)(x:AV)(f:FuncId)(cs:List AV)(rows:List (List AV))(p:List AV->Bool)(e:rows.length<9223372036854775808)(d:∀r∈rows,r.length=3)(a:SlOf h x 3 rows)(b:ZG h f cs agA rows p):
  ACalls Tryz.prog 143 [x,.fn (.func f) [] cs] h λr h'=>r=bl (rows.any p)/\h'=h:=by
 refine zi Tryz.f143 [.tmp 4] 9 rfl rfl rfl rfl rfl rfl (by decide) (⟨_,_,⟨rfl,rfl⟩,.refl⟩) λB=>?_
 simp only[go_sem]
 refine zg (x4b h x f cs rows p e d a b) ?_
 rintro _ g ⟨rfl,c⟩
 subst c
 simp only[go_sem,yT]
 refine zn ?_<;>(simp only[go_sem,yT]<;>try rfl)
theorem x5b(h:List Ob)(x:AV)(f:FuncId)(cs:List AV)(rows:List (List AV))(p:List AV->Bool)(A:rows.length<9223372036854775808)(t:∀r∈rows,r.length=4)(l:SlOf h x 4 rows)(v:ZG h f cs agA rows p):
  ACalls Tryz.prog 215 [x,.fn (.func f) [] cs] h λr h'=>r=i64 (JX rows p)/\h'=h:=by
 refine zi Tryz.f215 [.tmp 4] 19 rfl rfl rfl rfl rfl rfl (by decide) (⟨_,_,⟨rfl,rfl⟩,.refl⟩) λB=>?_
 simp only[go_sem,l.rows]
 refine zI (by decide) (λn T h'=>h'=h/\∃k:Nat,T 0=x/\T 1= .fn (.func f) [] cs/\T 7=i64 rows.length/\T 8=i64 k/\k<=rows.length/\(∀j (e:j<rows.length),j<k->p rows[j]=false)/\n=rows.length - k) rows.length
  ⟨rfl,0,by simp only[go_sem],by simp only[go_sem],by simp only[go_sem],by(simp only[go_sem]<;>rfl),by omega,λ_ _ h=>by omega,rfl⟩ ?_
 rintro n T h' ⟨rfl,k,t0,t1,s,t8,C,h0,rfl⟩
 simp only[go_sem,s,t8]
 refine ways (λq=>?_) (λq=>?_)
 ·have a:k<rows.length:=by simpa using q
  have o:=l.at a
  have b:rows[k]? =some rows[k]:=zj a
  have m:(k:Int)<rows.length:=by omega
  have w:=t rows[k] (zy a)
  obtain⟨a0,a1,a2,a3,d⟩:∃a0 a1 a2 a3,rows[k]=[a0,a1,a2,a3]:=by
   match hr:rows[k],w with
   | [a0,a1,a2,a3],_=>exact⟨_,_,_,_,rfl⟩
  have c:=v rows[k] (zy a) []
  rw[d] at b c
  simp only[zH,List.cons_append,List.nil_append,agA,nth] at c
  simp only[go_sem,o,l.rows,b,m,t0,t1,s,t8,Int.toNat_natCast,zh]
  refine zg c ?_
  rintro _ z ⟨rfl,u⟩
  subst u
  simp only[go_sem]
  refine ways (λi=>?_) (λi=>?_)
  ·simp only[go_sem,t8]
   rw[<-d] at i
   refine zn ?_<;>(simp only[go_sem,t8,wY a (λj e=>h0 j (by omega) e) i]<;>try rfl)
  ·simp only[go_sem,t8,xF (show k<9223372036854775807 by omega)]
   rw[<-d] at i
   refine⟨rows.length - (k+1),by omega,k+1,t0,t1,s,rfl,by omega,λj e y=>?_,rfl⟩
   rcases Nat.lt_or_ge j k with g|g
   ·exact h0 j e g
   ·have:j=k:=by omega
    subst this
    exact i
 ·have a:k=rows.length:=by
   have:¬ (k:Int)<rows.length:=by simpa using q
   omega
  simp only[go_sem]
  refine zn ?_<;>(simp only[go_sem,yB λj e=>h0 j e (by omega)]<;>try rfl)
theorem c81(h:List Ob)(x:AV)(f:FuncId)(cs:List AV)(rows:List (List AV))(p:List AV->Bool)(e:rows.length<9223372036854775808)(d:∀r∈rows,r.length=4)(a:SlOf h x 4 rows)(b:ZG h f cs agA rows p):
  ACalls Tryz.prog 146 [x,.fn (.func f) [] cs] h λr h'=>r=bl (rows.any p)/\h'=h:=by
 refine zi Tryz.f146 [.tmp 4] 9 rfl rfl rfl rfl rfl rfl (by decide) (⟨_,_,⟨rfl,rfl⟩,.refl⟩) λB=>?_
 simp only[go_sem]
 refine zg (x5b h x f cs rows p e d a b) ?_
 rintro _ g ⟨rfl,c⟩
 subst c
 simp only[go_sem,yT]
 refine zn ?_<;>(simp only[go_sem,yT]<;>try rfl)
theorem c42(h:List Ob)(x:AV)(f:FuncId)(cs:List AV)(rows:List (List AV))(p:List AV->Bool)(F:rows.length<9223372036854775808)(y:∀r∈rows,r.length=11)(m:SlOf h x 11 rows)(A:ZG h f cs agA rows p):
  ACalls Tryz.prog 61 [x,.fn (.func f) [] cs] h λr h'=>r=i64 (JX rows p)/\h'=h:=by
 refine zi Tryz.f61 [.tmp 4] 19 rfl rfl rfl rfl rfl rfl (by decide) (⟨_,_,⟨rfl,rfl⟩,.refl⟩) λB=>?_
 simp only[go_sem,m.rows]
 refine zI (by decide) (λn T h'=>h'=h/\∃k:Nat,T 0=x/\T 1= .fn (.func f) [] cs/\T 7=i64 rows.length/\T 8=i64 k/\k<=rows.length/\(∀j (g:j<rows.length),j<k->p rows[j]=false)/\n=rows.length - k) rows.length
  ⟨rfl,0,by simp only[go_sem],by simp only[go_sem],by simp only[go_sem],by(simp only[go_sem]<;>rfl),by omega,λ_ _ h=>by omega,rfl⟩ ?_
 rintro n T h' ⟨rfl,k,t0,t1,v,t8,G,h0,rfl⟩
 simp only[go_sem,v,t8]
 refine ways (λu=>?_) (λu=>?_)
 ·have a:k<rows.length:=by simpa using u
  have q:=m.at a
  have b:rows[k]? =some rows[k]:=zj a
  have o:(k:Int)<rows.length:=by omega
  have C:=y rows[k] (zy a)
  obtain⟨a0,a1,a2,a3,a4,a5,s,w,t,a9,e,d⟩:∃a0 a1 a2 a3 a4 a5 s w t a9 e,rows[k]=[a0,a1,a2,a3,a4,a5,s,w,t,a9,e]:=by
   match hr:rows[k],C with
   | [a0,a1,a2,a3,a4,a5,s,w,t,a9,e],_=>exact⟨_,_,_,_,_,_,_,_,_,_,_,rfl⟩
  have c:=A rows[k] (zy a) []
  rw[d] at b c
  simp only[zH,List.cons_append,List.nil_append,agA,nth] at c
  simp only[go_sem,q,m.rows,b,o,t0,t1,v,t8,Int.toNat_natCast,zh]
  refine zg c ?_
  rintro _ E ⟨rfl,z⟩
  subst z
  simp only[go_sem]
  refine ways (λl=>?_) (λl=>?_)
  ·simp only[go_sem,t8]
   rw[<-d] at l
   refine zn ?_<;>(simp only[go_sem,t8,wY a (λj g=>h0 j (by omega) g) l]<;>try rfl)
  ·simp only[go_sem,t8,xF (show k<9223372036854775807 by omega)]
   rw[<-d] at l
   refine⟨rows.length - (k+1),by omega,k+1,t0,t1,v,rfl,by omega,λj g D=>?_,rfl⟩
   rcases Nat.lt_or_ge j k with i|i
   ·exact h0 j g i
   ·have:j=k:=by omega
    subst this
    exact l
 ·have a:k=rows.length:=by
   have:¬ (k:Int)<rows.length:=by simpa using u
   omega
  simp only[go_sem]
  refine zn ?_<;>(simp only[go_sem,yB λj g=>h0 j g (by omega)]<;>try rfl)
