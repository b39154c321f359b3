import Derived.Test.YtigdlmpjijhpaaaGreatKA
import Derived.Test.YtigdlmpjijhpaaaGreatK11
import Derived.Test.YtigdlmpjijhpaaaGreatK10
import Derived.IntWalk
set_option linter.all false
namespace Go.Proofs.YtigdlmpjijhpaaaGreat.Ax
open Go Go.Proofs
set_option maxRecDepth 100000
attribute [go_sem] ty3 ty4 K8a YLa YMa
abbrev i64(n:Int):AV:= .v (.int .i64 n)
abbrev bl(b:Bool):AV:= .v (.bool b)
abbrev Yqa(n d:Int):AV:= .ag [i64 n,i64 d]
abbrev wr(n:Int):Int:=IntKind.wrap .i64 n
theorem c52:xy Tryz.prog 202 [] (Yqa 0 1):=λh=>by
 refine zj Tryz.f202 [.cell 0 24] 2 rfl rfl rfl rfl rfl rfl (by decide) (⟨_,_,⟨rfl,rfl⟩,.refl⟩) λB=>?_
 simp only[go_sem]
 refine zn ?_<;>(simp only[go_sem]<;>try rfl)
def JU(n:Int):Int:=if n= -9223372036854775808 then 4611686018427387904 else if n<0 then wr (0 - n) else n
theorem c84(n:Int):xy Tryz.prog 258 [i64 n] (i64 (JU n)):=λh=>by
 refine zj Tryz.f258 [.tmp 2] 12 rfl rfl rfl rfl rfl rfl (by decide) (⟨_,_,⟨rfl,rfl⟩,.refl⟩) λB=>?_
 simp only[go_sem]
 refine ways (λe=>?_) (λe=>?_)
 ·simp only[beq_iff_eq] at e
  refine zn ?_<;>(simp only[go_sem,JU,e]<;>try rfl)
 ·simp only[beq_eq_false_iff_ne,ne_eq] at e
  simp only[go_sem]
  refine ways (λa=>?_) (λa=>?_)
  ·simp only[decide_eq_true_eq] at a
   simp only[go_sem]
   refine zn ?_<;>(simp only[go_sem,JU,e,a]<;>try rfl)
  ·simp only[decide_eq_false_iff_not] at a
   simp only[go_sem]
   refine zn ?_<;>(simp only[go_sem,JU,e,a]<;>try rfl)
def Fit(n:Int):Prop:= -9223372036854775808<=n/\n<=9223372036854775807
theorem qq{n:Int}(h:Fit n):wr n=n:=Go.IntWalk.i64_in n h
theorem ypa{n:Int}(h:Fit n):0<=JU n:=by
 unfold JU
 split
 ·omega
 ·split
  ·rw[qq (by unfold Fit at *; omega)];omega
  ·omega
def WT(a b:Int):Int:=(Nat.gcd (JU a).toNat (JU b).toNat:Int)
theorem c53(a b:Int)(i:Fit a)(g:Fit b):xy Tryz.prog 204 [i64 a,i64 b] (i64 (WT a b)):=λh=>by
 refine zj Tryz.f204 [.tmp 4] 16 rfl rfl rfl rfl rfl rfl (by decide) (⟨_,_,⟨rfl,rfl⟩,.refl⟩) λB=>?_
 simp only[go_sem]
 refine zh (c84 a h) ?_
 rintro _ _ ⟨rfl,rfl⟩
 simp only[go_sem]
 refine zh (c84 b _) ?_
 rintro _ _ ⟨rfl,rfl⟩
 simp only[go_sem]
 rename_i h
 refine zO (by decide) (λn T h'=>h'=h/\∃x y:Nat,T 0=i64 x/\T 1=i64 y/\Nat.gcd x y=Nat.gcd (JU a).toNat (JU b).toNat/\y=n) _ ⟨rfl,(JU a).toNat,(JU b).toNat,?_,?_,rfl,rfl⟩ ?_
 ·simp only[go_sem,Int.toNat_of_nonneg (ypa i)]
 ·simp only[go_sem,Int.toNat_of_nonneg (ypa g)]
 rintro n T h ⟨rfl,x,y,h0,f,d,rfl⟩
 simp only[go_sem,h0,f]
 refine ways (λe=>?_) (λe=>?_)
 ·simp only[go_sem]
  have hyp:0<y:=by simpa using e
  have c:¬ (y:Int)=0:=by omega
  refine zQ rfl [] 0 [(0,0,[]),(1,0,[]),(2,0,[]),(3,0,[]),(4,0,[]),(5,0,[])] rfl (by decide) (by decide) ?_
  simp only[go_sem,h0,f,c]
  refine⟨x % y,Nat.mod_lt _ hyp,y,x % y,rfl,by rw[Int.ofNat_tmod],?_,rfl⟩
  rw[<-d,Nat.gcd_comm y, <-Nat.gcd_rec,Nat.gcd_comm]
 ·simp only[go_sem]
  have c:y=0:=by simpa using e
  subst c
  rw[Nat.gcd_zero_right] at d
  simp only[go_sem,h0]
  refine zn ?_<;>(simp only[go_sem,WT,h0,d]<;>try rfl)
theorem Xca{a b:Int}(c:Fit b)(h:0<b):0<WT a b:=by
 have:JU b=b:=by
  unfold JU
  split
  ·omega
  ·split<;>omega
 unfold WT
 rw[this]
 have:=Nat.gcd_pos_of_pos_right (JU a).toNat (show 0<b.toNat by omega)
 omega
abbrev qw:=Int × Int
abbrev rat(p:qw):AV:=Yqa p.1 p.2
def make(n d:Int):qw × Int:=
 if d<=0 then((0,0),20) else if n=0 then((0,1),0) else
  if wr (n.tdiv (WT n d))>2147483647∨wr (n.tdiv (WT n d))< -2147483647∨wr (d.tdiv (WT n d))>2147483647 then((0,0),10) else((wr (n.tdiv (WT n d)),wr (d.tdiv (WT n d))),0)
abbrev KX(p:qw × Int):AV:= .tup [rat p.1,i64 p.2]
theorem c18(n d:Int)(j:Fit n)(i:Fit d):xy Tryz.prog 129 [i64 n,i64 d] (KX (make n d)):=λh=>by
 refine zj Tryz.f129 [.cell 4 24,.tmp 5] 36 rfl rfl rfl rfl rfl rfl (by decide) (⟨_,_,⟨rfl,rfl⟩,.refl⟩) λB=>?_
 simp only[go_sem]
 refine ways (λe=>?_) (λe=>?_)
 ·simp only[decide_eq_true_eq] at e
  simp only[go_sem]
  refine zn ?_<;>(simp only[go_sem,make,e]<;>try rfl)
 simp only[decide_eq_false_iff_not] at e
 simp only[go_sem]
 refine ways (λf=>?_) (λf=>?_)
 ·simp only[beq_iff_eq] at f
  simp only[go_sem]
  refine zh (c52 _) ?_
  rintro _ _ ⟨rfl,rfl⟩
  simp only[go_sem]
  refine zn ?_<;>(simp only[go_sem,make,e,f]<;>try rfl)
 simp only[beq_eq_false_iff_ne,ne_eq] at f
 simp only[go_sem]
 refine zh (c53 n d j i _) ?_
 rintro _ _ ⟨rfl,rfl⟩
 simp only[go_sem]
 refine zQ rfl [] 0 [(0,0,[]),(1,0,[]),(2,0,[]),(3,0,[]),(4,0,[]),(5,0,[]),(6,0,[]),(7,0,[])] rfl (by decide) (by decide) ?_
 have k:¬ WT n d=0:=by have:=Xca (a:=n) i (by omega);omega
 simp only[go_sem,k]
 refine ways (λb=>?_) (λb=>?_)
 ·have b:=vp b
  simp only[go_sem,b]
  refine ways (λc=>?_) (λc=>?_)
  ·have c:=vp c
   simp only[go_sem,c]
   refine ways (λg=>?_) (λg=>?_)
   ·simp only[go_sem]
    simp only[decide_eq_true_eq,decide_eq_false_iff_not] at b c g
    refine zn ?_<;>(simp only[go_sem,make,e,f,b,c,g,or_true]<;>try rfl)
   ·simp only[go_sem]
    simp only[decide_eq_true_eq,decide_eq_false_iff_not] at b c g
    refine zn ?_<;>(simp only[go_sem,make,e,f,b,c,g,or_self]<;>try rfl)
  ·have c:=vo c
   simp only[go_sem,c]
   simp only[decide_eq_true_eq,decide_eq_false_iff_not] at b c
   refine zn ?_<;>(simp only[go_sem,make,e,f,b,c,true_or,or_true]<;>try rfl)
 ·have b:=vo b
  simp only[go_sem,b]
  simp only[decide_eq_true_eq] at b
  refine zn ?_<;>(simp only[go_sem,make,e,f,b,true_or]<;>try rfl)
def rok(p:qw):Bool:=(make p.1 p.2).2==0 && ((make p.1 p.2).1.1==p.1 && (make p.1 p.2).1.2==p.2)
theorem c27(p:qw)(b:Fit p.1)(a:Fit p.2):xy Tryz.prog 133 [rat p] (bl (rok p)):=λh=>by
 refine zj Tryz.f133 [.tmp 2] 20 rfl rfl rfl rfl rfl rfl (by decide) (⟨_,_,⟨rfl,rfl⟩,.refl⟩) λB=>?_
 simp only[go_sem]
 refine zh (c18 p.1 p.2 b a _) ?_
 rintro _ _ ⟨rfl,rfl⟩
 simp only[go_sem]
 refine ways (λe=>?_) (λe=>?_)
 ·have e:=xO e
  simp only[go_sem,e]
  refine zn ?_<;>(simp only[go_sem,rok,e]<;>try rfl)
 ·have e:=xN e
  simp only[go_sem,e]
  refine zn ?_<;>(simp only[go_sem,rok,e]<;>try rfl)
theorem wE(n:Int):Fit (wr n):=by
 unfold Fit wr
 rw[IntKind.wrap_i64]
 omega
def jq(p:qw):Prop:=Fit p.1/\Fit p.2
def Two(f:FuncId)(v:qw->qw->Int × Int):Prop:=∀(h:List Ob) (i j:Nat) (a b:qw),h[i]? =some (.box 24 [i64 a.1,i64 a.2])->h[j]? =some (.box 24 [i64 b.1,i64 b.2])->
 ACalls Tryz.prog f [.ptr i 0,.ptr j 0] h λr h'=>r= .tup [i64 (v a b).1,i64 (v a b).2]/\h'=h
theorem c55:Two 206 λa b=>(wr (wr (a.1*b.2) - wr (b.1*a.2)),wr (a.2*b.2)):=λh i j a b hi c=>by
 refine zj Tryz.f206 [.tmp 2,.tmp 3] 20 rfl rfl rfl rfl rfl rfl (by decide) (⟨_,_,⟨rfl,rfl⟩,.refl⟩) λB=>?_
 simp only[go_sem]
 refine zQ rfl [] 0 [(0,0,[]),(2,0,[]),(5,0,[]),(7,0,[]),(11,0,[]),(13,0,[]),(1,0,[]),(3,0,[]),(4,0,[]),(6,0,[]),(8,0,[]),(9,0,[]),(10,0,[]),(16,0,[]),(12,0,[]),(14,0,[]),(15,0,[]),(17,0,[])] rfl (by decide) (by decide) ?_
 simp only[go_sem,hi,c]
 refine zn ?_<;>(simp only[go_sem]<;>try rfl)
theorem c92:Two 257 λa b=>(wr (wr (a.1*b.2)+wr (b.1*a.2)),wr (a.2*b.2)):=λh i j a b hi c=>by
 refine zj Tryz.f257 [.tmp 2,.tmp 3] 20 rfl rfl rfl rfl rfl rfl (by decide) (⟨_,_,⟨rfl,rfl⟩,.refl⟩) λB=>?_
 simp only[go_sem]
 refine zQ rfl [] 0 [(0,0,[]),(2,0,[]),(5,0,[]),(7,0,[]),(11,0,[]),(13,0,[]),(1,0,[]),(3,0,[]),(4,0,[]),(6,0,[]),(8,0,[]),(9,0,[]),(10,0,[]),(16,0,[]),(12,0,[]),(14,0,[]),(15,0,[]),(17,0,[])] rfl (by decide) (by decide) ?_
 simp only[go_sem,hi,c]
 refine zn ?_<;>(simp only[go_sem]<;>try rfl)
theorem c64:Two 256 λa b=>(wr (a.1*b.1),wr (a.2*b.2)):=λh i j a b hi c=>by
 refine zj Tryz.f256 [.tmp 2,.tmp 3] 14 rfl rfl rfl rfl rfl rfl (by decide) (⟨_,_,⟨rfl,rfl⟩,.refl⟩) λB=>?_
 simp only[go_sem]
 refine zQ rfl [] 0 [(0,0,[]),(2,0,[]),(5,0,[]),(7,0,[]),(1,0,[]),(3,0,[]),(4,0,[]),(10,0,[]),(6,0,[]),(8,0,[]),(9,0,[]),(11,0,[])] rfl (by decide) (by decide) ?_
 simp only[go_sem,hi,c]
 refine zn ?_<;>(simp only[go_sem]<;>try rfl)
theorem c75:Two 207 λa b=>(wr (a.1*b.2),wr (a.2*b.1)):=λh i j a b hi c=>by
 refine zj Tryz.f207 [.tmp 2,.tmp 3] 14 rfl rfl rfl rfl rfl rfl (by decide) (⟨_,_,⟨rfl,rfl⟩,.refl⟩) λB=>?_
 simp only[go_sem]
 refine zQ rfl [] 0 [(0,0,[]),(2,0,[]),(5,0,[]),(7,0,[]),(1,0,[]),(3,0,[]),(4,0,[]),(10,0,[]),(6,0,[]),(8,0,[]),(9,0,[]),(11,0,[])] rfl (by decide) (by decide) ?_
 simp only[go_sem,hi,c]
 refine zn ?_<;>(simp only[go_sem]<;>try rfl)
def Zl(v:qw->qw->Int × Int)(a b:qw):qw × Int:=if(rok a && rok b)=true then make (v a b).1 (v a b).2 else((0,0),20)
theorem c54(h:List Ob)(a b:qw)(i:jq a)(g:jq b)(f:FuncId)(cs:List AV)(n d:Int)(k:Fit n)(j:Fit d)(l:∀L,ACalls Tryz.prog f cs (h++L) λr h'=>r= .tup [i64 n,i64 d]/\h'=h++L):
  ACalls Tryz.prog 205 [rat a,rat b,.fn (.func f) [] cs] h λr h'=>r=KX (if(rok a && rok b)=true then make n d else((0,0),20))/\h'=h:=by
 refine zj Tryz.f205 [.cell 6 24,.tmp 7] 24 rfl rfl rfl rfl rfl rfl (by decide) (⟨_,_,⟨rfl,rfl⟩,.refl⟩) λB=>?_
 simp only[go_sem]
 refine zh (c27 a i.1 i.2 _) ?_
 rintro _ _ ⟨rfl,rfl⟩
 simp only[go_sem]
 refine ways (λe=>?_) (λe=>?_)
 ·have e:=vp e
  simp only[Bool.not_eq_false'] at e
  simp only[go_sem,e]
  refine zh (c27 b g.1 g.2 _) ?_
  rintro _ _ ⟨rfl,rfl⟩
  simp only[go_sem,e]
  refine ways (λc=>?_) (λc=>?_)
  ·simp only[Bool.not_eq_true'] at c
   simp only[go_sem,e,c]
   refine zn ?_<;>(simp only[go_sem,e,c]<;>try rfl)
  ·simp only[Bool.not_eq_false'] at c
   simp only[go_sem,e,c]
   refine zh (l _) ?_
   rintro _ _ ⟨rfl,rfl⟩
   simp only[go_sem]
   refine zh (c18 n d k j _) ?_
   rintro _ _ ⟨rfl,rfl⟩
   simp only[go_sem]
   refine zn ?_<;>(simp only[go_sem,e,c]<;>try rfl)
 ·have e:=vo e
  simp only[Bool.not_eq_true'] at e
  simp only[go_sem,e]
  refine zn ?_<;>(simp only[go_sem,e]<;>try rfl)
theorem Vxa{f:FuncId}{v:qw->qw->Int × Int}(d:Two f v)(c:∀a b,Fit (v a b).1/\Fit (v a b).2){h:List Ob}(a b:qw)(k:jq a)(e:jq b)(i j:Nat)(hi:h[i]? =some (.box 24 [i64 a.1,i64 a.2]))(g:h[j]? =some (.box 24 [i64 b.1,i64 b.2])):
  ACalls Tryz.prog 205 [rat a,rat b,.fn (.func f) [] [.ptr i 0,.ptr j 0]] h λr h'=>r=KX (Zl v a b)/\h'=h:=
 c54 h a b k e f _ _ _ (c a b).1 (c a b).2 λL=>d _ i j a b (ze hi) (ze g)
abbrev Vya(a b:qw):Int × Int:=(wr (wr (a.1*b.2) - wr (b.1*a.2)),wr (a.2*b.2))
abbrev Z2a(a b:qw):Int × Int:=(wr (wr (a.1*b.2)+wr (b.1*a.2)),wr (a.2*b.2))
abbrev jNa(a b:qw):Int × Int:=(wr (a.1*b.1),wr (a.2*b.2))
abbrev Xda(a b:qw):Int × Int:=(wr (a.1*b.2),wr (a.2*b.1))
theorem c19(a b:qw)(c:jq a)(d:jq b):xy Tryz.prog 131 [rat a,rat b] (KX (Zl Vya a b)):=λh=>by
 refine zj Tryz.f131 [.cell 4 24,.tmp 5] 12 rfl rfl rfl rfl rfl rfl (by decide) (⟨_,_,⟨rfl,rfl⟩,.refl⟩) λB=>?_
 simp only[go_sem]
 refine zh (Vxa (v:=Vya) c55 (λ_ _=>⟨wE _,wE _⟩) a b c d _ _ (by simp only[go_sem]) (by simp only[go_sem])) ?_
 rintro _ _ ⟨rfl,rfl⟩
 simp only[go_sem]
 refine zn ?_<;>(simp only[go_sem]<;>try rfl)
theorem c63(a b:qw)(c:jq a)(d:jq b):xy Tryz.prog 203 [rat a,rat b] (KX (Zl Z2a a b)):=λh=>by
 refine zj Tryz.f203 [.cell 4 24,.tmp 5] 12 rfl rfl rfl rfl rfl rfl (by decide) (⟨_,_,⟨rfl,rfl⟩,.refl⟩) λB=>?_
 simp only[go_sem]
 refine zh (Vxa (v:=Z2a) c92 (λ_ _=>⟨wE _,wE _⟩) a b c d _ _ (by simp only[go_sem]) (by simp only[go_sem])) ?_
 rintro _ _ ⟨rfl,rfl⟩
 simp only[go_sem]
 refine zn ?_<;>(simp only[go_sem]<;>try rfl)
theorem c24(a b:qw)(c:jq a)(d:jq b):xy Tryz.prog 201 [rat a,rat b] (KX (Zl jNa a b)):=λh=>by
 refine zj Tryz.f201 [.cell 4 24,.tmp 5] 12 rfl rfl rfl rfl rfl rfl (by decide) (⟨_,_,⟨rfl,rfl⟩,.refl⟩) λB=>?_
 simp only[go_sem]
 refine zh (Vxa (v:=jNa) c64 (λ_ _=>⟨wE _,wE _⟩) a b c d _ _ (by simp only[go_sem]) (by simp only[go_sem])) ?_
 rintro _ _ ⟨rfl,rfl⟩
 simp only[go_sem]
 refine zn ?_<;>(simp only[go_sem]<;>try rfl)
theorem c46(a b:qw)(c:jq a)(d:jq b):xy Tryz.prog 132 [rat a,rat b] (KX (Zl Xda a b)):=λh=>by
 refine zj Tryz.f132 [.cell 4 24,.tmp 5] 12 rfl rfl rfl rfl rfl rfl (by decide) (⟨_,_,⟨rfl,rfl⟩,.refl⟩) λB=>?_
 simp only[go_sem]
 refine zh (Vxa (v:=Xda) c75 (λ_ _=>⟨wE _,wE _⟩) a b c d _ _ (by simp only[go_sem]) (by simp only[go_sem])) ?_
 rintro _ _ ⟨rfl,rfl⟩
 simp only[go_sem]
 refine zn ?_<;>(simp only[go_sem]<;>try rfl)
def YN(a b:qw):Bool:=rok a && rok b && decide (wr (a.1*b.2)<wr (b.1*a.2))
theorem c20(a b:qw)(d:jq a)(f:jq b):xy Tryz.prog 134 [rat a,rat b] (bl (YN a b)):=λh=>by
 refine zj Tryz.f134 [.tmp 4] 24 rfl rfl rfl rfl rfl rfl (by decide) (⟨_,_,⟨rfl,rfl⟩,.refl⟩) λB=>?_
 simp only[go_sem]
 refine zh (c27 a d.1 d.2 _) ?_
 rintro _ _ ⟨rfl,rfl⟩
 simp only[go_sem]
 refine ways (λe=>?_) (λe=>?_)
 ·have e:=xO e
  simp only[go_sem,e]
  refine zh (c27 b f.1 f.2 _) ?_
  rintro _ _ ⟨rfl,rfl⟩
  simp only[go_sem,e]
  refine ways (λc=>?_) (λc=>?_)
  ·have c:=xO c
   simp only[go_sem,e,c]
   refine zn ?_<;>(simp only[go_sem,YN,e,c]<;>try rfl)
  ·have c:=xN c
   simp only[go_sem,e,c]
   refine zn ?_<;>(simp only[go_sem,YN,e,c]<;>try rfl)
 ·have e:=xN e
  simp only[go_sem,e]
  refine zn ?_<;>(simp only[go_sem,YN,e]<;>try rfl)
attribute [go_sem] Joa
theorem xE{k:Nat}(h:k<9223372036854775807):wr ((k:Int)+1)=((k+1:Nat):Int):=by rw[qq (by unfold Fit;omega)];rfl
def jS(p:qw):List AV:=[i64 p.1,i64 p.2]
theorem Qw(n d:Int):jq (make n d).1:=by
 unfold make jq
 split
 ·exact⟨⟨by decide,by decide⟩,⟨by decide,by decide⟩⟩
 ·split
  ·exact⟨⟨by decide,by decide⟩,⟨by decide,by decide⟩⟩
  ·split
   ·exact⟨⟨by decide,by decide⟩,⟨by decide,by decide⟩⟩
   ·exact⟨wE _,wE _⟩
theorem KY(v:qw->qw->Int × Int)(a b:qw):jq (Zl v a b).1:=by
 unfold Zl
 split
 ·exact Qw _ _
 ·exact⟨⟨by decide,by decide⟩,⟨by decide,by decide⟩⟩
def WU:qw->List qw->qw × Int
 | out,[]=>(out,0)
 | out,r::l=>if(Zl Z2a out r).2≠0 then((0,0),(Zl Z2a out r).2) else WU (Zl Z2a out r).1 l
def y8(l:List qw):qw × Int:=if l.all rok then WU (0,1) l else((0,0),20)
theorem c23(h:List Ob)(x:AV)(l:List qw)(z:∀p∈l,jq p)(D:l.length<1099511627776)(w:SlOf h x 2 (l.map jS)):
  ACalls Tryz.prog 128 [x] h λr h'=>r=KX (y8 l)/\h'=h:=by
 refine zj Tryz.f128 [.cell 2 24,.tmp 3] 38 rfl rfl rfl rfl rfl rfl (by decide) (⟨_,_,⟨rfl,rfl⟩,.refl⟩) λB=>?_
 simp only[go_sem]
 refine zh (c52 _) ?_
 rintro _ C ⟨rfl,f⟩
 subst f
 have F:∀L,qc (h++L) x=some (l.map jS):=λL=>(w.app L).rows
 simp only[go_sem,F,zb]
 refine zO (by decide) (λn T h'=>∃(k:Nat) (L:List Ob),h'=h++(Ob.box 24 [i64 0,i64 1]::L)/\T 0=x/\T 2= .ptr h.length 0/\T 9=x/\T 10=i64 l.length/\T 11=i64 k/\k<=l.length/\(l.take k).all rok=true/\n=l.length - k) l.length
  ⟨0,[],rfl,by simp only[go_sem],by simp only[go_sem],by simp only[go_sem],by simp only[go_sem],by(simp only[go_sem]<;>rfl),by omega,rfl,rfl⟩ ?_
 rintro n T h' ⟨k,L,e,t0,t2,t9,t10,g,E,b,rfl⟩
 have q:SlOf h' x 2 (l.map jS):=by subst e;exact w.app _
 simp only[go_sem,t9,t10,g]
 refine ways (λf=>?_) (λf=>?_)
 ·have a:k<l.length:=by simpa using f
  have u:=q.at (i:=k) (by simpa using a)
  have v:(l.map jS)[k]? =some (jS l[k]):=by simp[a]
  have m:(k:Int)<l.length:=by omega
  simp only[go_sem,u,q.rows,v,m,t9,t10,g,Int.toNat_natCast,zf,zb,jS]
  refine zh (c27 l[k] (z _ (zx a)).1 (z _ (zx a)).2 _) ?_
  rintro _ C ⟨rfl,A⟩
  subst A
  simp only[go_sem]
  refine ways (λc=>?_) (λc=>?_)
  ·simp only[Bool.not_eq_true'] at c
   have t:∀M,(h'++M)[h.length]? =some (Ob.box 24 [i64 0,i64 1]):=λM=>by subst e;simp only[go_sem]
   simp only[go_sem,t2,t]
   subst e
   simp only[go_sem]
   have D:l.all rok=false:=by
    rw[List.all_eq_false]
    exact⟨l[k],zx a,by simp[c]⟩
   refine zn ?_<;>(simp only[go_sem,t2,y8,D]<;>try rfl)
  ·simp only[Bool.not_eq_false'] at c
   simp only[go_sem,g,xE (show k<9223372036854775807 by omega)]
   refine⟨l.length - (k+1),by omega,k+1,L++[Ob.box 24 [i64 l[k].1,i64 l[k].2]],by rw[e];simp,t0,t2,t9,t10,rfl,by omega,?_,rfl⟩
   rw[List.take_add_one,zi a,List.all_append,b]
   simp only[Option.toList_some,List.all_cons,List.all_nil,c,Bool.and_self]
 ·have a:k=l.length:=by
   have:¬ (k:Int)<l.length:=by simpa using f
   omega
  have d:l.all rok=true:=by rw[a,zV] at b;exact b
  simp only[go_sem,t0,q.rows,zb]
  refine zO (by decide) (λn T h'=>∃(k:Nat) (out:qw) (L:List Ob),h'=h++(Ob.box 24 [i64 out.1,i64 out.2]::L)/\jq out/\T 2= .ptr h.length 0/\T 20=x/\T 21=i64 l.length/\T 22=i64 k/\k<=l.length/\WU (0,1) l=WU out (l.drop k)/\n=l.length - k) l.length
   ⟨0,(0,1),L,e,⟨⟨by decide,by decide⟩,⟨by decide,by decide⟩⟩,by simp only[go_sem,t2],by simp only[go_sem],by simp only[go_sem],by(simp only[go_sem]<;>rfl),by omega,rfl,rfl⟩ ?_
  clear q t0 t2 t9 t10 g E a f e b
  clear k L h' T
  rintro n T h' ⟨k,out,L,e,y,t2,j,o,t22,E,s,rfl⟩
  have q:SlOf h' x 2 (l.map jS):=by subst e;exact w.app _
  simp only[go_sem,j,o,t22]
  refine ways (λf=>?_) (λf=>?_)
  ·have a:k<l.length:=by simpa using f
   have u:=q.at (i:=k) (by simpa using a)
   have v:(l.map jS)[k]? =some (jS l[k]):=by simp[a]
   have m:(k:Int)<l.length:=by omega
   have t:∀M,(h'++M)[h.length]? =some (Ob.box 24 [i64 out.1,i64 out.2]):=λM=>by subst e;simp only[go_sem]
   simp only[go_sem,u,q.rows,v,m,t2,t,j,o,t22,Int.toNat_natCast,zf,zb,jS]
   refine zh (c63 out l[k] y (z _ (zx a)) _) ?_
   rintro _ C ⟨rfl,A⟩
   subst A
   simp only[go_sem,t2,t]
   refine ways (λc=>?_) (λc=>?_)
   ·simp only[bne_iff_ne,ne_eq] at c
    subst e
    simp only[go_sem,t2]
    rw[qU a] at s
    refine zn ?_<;>(simp only[go_sem,t2,y8,d,s,WU,c]<;>try rfl)
   ·simp only[bne_eq_false_iff_eq] at c
    simp only[go_sem,t22,xE (show k<9223372036854775807 by omega)]
    subst e
    refine⟨l.length - (k+1),by omega,k+1,(Zl Z2a out l[k]).1,L++[Ob.box 24 [i64 l[k].1,i64 l[k].2]],by simp only[go_sem],KY _ _ _,t2,j,o,rfl,by omega,?_,rfl⟩
    rw[s,qU a]
    simp[WU,c]
  ·have a:k=l.length:=by
    have:¬ (k:Int)<l.length:=by simpa using f
    omega
   rw[a,List.drop_length] at s
   subst e
   simp only[go_sem,t2]
   refine zn ?_<;>(simp only[go_sem,t2,y8,d,s,WU]<;>try rfl)
attribute [go_sem] K7a K9a Zwa Vaa Vba Vca Jqa Jpa Jra
def ZD(h:List Ob)(f:FuncId)(cs:List AV)(arg:List AV->AV)(rows:List (List AV))(p:List AV->Bool):Prop:=
 ∀row∈rows,∀L,ACalls Tryz.prog f ([arg row]++cs) (h++L) λr h'=>r=bl (p row)/\h'=h++L
def JV(rows:List (List AV))(p:List AV->Bool):Int:=match rows.findIdx? p with
 | some i=>(i:Int)
 | none=> -1
theorem wX{rows:List (List AV)}{p:List AV->Bool}{k:Nat}(c:k<rows.length)(h0:∀j (a:j<k),p (rows[j]'(by omega))=false)(b:p rows[k]=true):JV rows p=k:=by
 unfold JV
 rw[List.findIdx?_eq_some_iff_getElem.2 ⟨c,b,λj a=>by simp[h0 j a]⟩]
theorem yz{rows:List (List AV)}{p:List AV->Bool}(h0:∀j (a:j<rows.length),p rows[j]=false):JV rows p= -1:=by
 unfold JV
 rw[List.findIdx?_eq_none_iff.2 λx b=>by obtain⟨j,a,e⟩:=List.getElem_of_mem b;rw[<-e];exact h0 j a]
theorem yR(rows:List (List AV))(p:List AV->Bool):decide (JV rows p≥0)=rows.any p:=by
 unfold JV
 cases h:rows.findIdx? p with
 | some i=>
   obtain⟨hi,b,_⟩:=List.findIdx?_eq_some_iff_getElem.1 h
   have:rows.any p=true:=List.any_eq_true.2 ⟨_,zx hi,b⟩
   rw[this]
   simp
 | none=>
   have:=List.findIdx?_eq_none_iff.1 h
   have:rows.any p=false:=List.any_eq_false.2 λx a=>by simp[this x a]
   rw[this]
   simp
abbrev agA(row:List AV):AV:= .ag row
abbrev Vza(row:List AV):AV:=nth row 0
theorem q0b(h:List Ob)(x:AV)(f:FuncId)(cs:List AV)(rows:List (List AV))(p:List AV->Bool)(A:rows.length<9223372036854775808)(t:∀r∈rows,r.length=1)(o:SlOf h x 1 rows)(u:ZD h f cs Vza rows p):
  ACalls Tryz.prog 223 [x,.fn (.func f) [] cs] h λr h'=>r=i64 (JV rows p)/\h'=h:=by
 refine zj Tryz.f223 [.tmp 4] 19 rfl rfl rfl rfl rfl rfl (by decide) (⟨_,_,⟨rfl,rfl⟩,.refl⟩) λB=>?_
 simp only[go_sem,o.rows]
 refine zO (by decide) (λn T h'=>h'=h/\∃k:Nat,T 0=x/\T 1= .fn (.func f) [] cs/\T 7=i64 rows.length/\T 8=i64 k/\k<=rows.length/\(∀j (e:j<rows.length),j<k->p rows[j]=false)/\n=rows.length - k) rows.length
  ⟨rfl,0,by simp only[go_sem],by simp only[go_sem],by simp only[go_sem],by(simp only[go_sem]<;>rfl),by omega,λ_ _ h=>by omega,rfl⟩ ?_
 rintro n T h' ⟨rfl,k,t0,t1,s,t8,C,h0,rfl⟩
 simp only[go_sem,s,t8]
 refine ways (λm=>?_) (λm=>?_)
 ·have a:k<rows.length:=by simpa using m
  have q:=o.at a
  have b:rows[k]? =some rows[k]:=zi a
  have l:(k:Int)<rows.length:=by omega
  have v:=t rows[k] (zx a)
  obtain⟨a0,d⟩:∃a0,rows[k]=[a0]:=by
   match hr:rows[k],v with
   | [a0],_=>exact⟨_,rfl⟩
  have c:=u rows[k] (zx a) []
  rw[d] at b c
  simp only[zM,List.cons_append,List.nil_append,Vza,nth] at c
  simp only[go_sem,q,o.rows,b,l,t0,t1,s,t8,Int.toNat_natCast,zf]
  refine zh c ?_
  rintro _ z ⟨rfl,w⟩
  subst w
  simp only[go_sem]
  refine ways (λg=>?_) (λg=>?_)
  ·simp only[go_sem,t8]
   rw[<-d] at g
   refine zn ?_<;>(simp only[go_sem,t8,wX a (λj e=>h0 j (by omega) e) g]<;>try rfl)
  ·simp only[go_sem,t8,xE (show k<9223372036854775807 by omega)]
   rw[<-d] at g
   refine⟨rows.length - (k+1),by omega,k+1,t0,t1,s,rfl,by omega,λj e y=>?_,rfl⟩
   rcases Nat.lt_or_ge j k with i|i
   ·exact h0 j e i
   ·have:j=k:=by omega
    subst this
    exact g
 ·have a:k=rows.length:=by
   have:¬ (k:Int)<rows.length:=by simpa using m
   omega
  simp only[go_sem]
  refine zn ?_<;>(simp only[go_sem,yz λj e=>h0 j e (by omega)]<;>try rfl)
theorem c98(h:List Ob)(x:AV)(f:FuncId)(cs:List AV)(rows:List (List AV))(p:List AV->Bool)(b:rows.length<9223372036854775808)(d:∀r∈rows,r.length=1)(a:SlOf h x 1 rows)(e:ZD h f cs Vza rows p):
  ACalls Tryz.prog 210 [x,.fn (.func f) [] cs] h λr h'=>r=bl (rows.any p)/\h'=h:=by
 refine zj Tryz.f210 [.tmp 4] 9 rfl rfl rfl rfl rfl rfl (by decide) (⟨_,_,⟨rfl,rfl⟩,.refl⟩) λB=>?_
 simp only[go_sem]
 refine zh (q0b h x f cs rows p b d a e) ?_
 rintro _ g ⟨rfl,c⟩
 subst c
 simp only[go_sem,yR]
 refine zn ?_<;>(simp only[go_sem,yR]<;>try rfl)
theorem xIb(h:List Ob)(x:AV)(f:FuncId)(cs:List AV)(rows:List (List AV))(p:List AV->Bool)(A:rows.length<9223372036854775808)(t:∀r∈rows,r.length=2)(o:SlOf h x 2 rows)(u:ZD h f cs agA rows p):
  ACalls Tryz.prog 259 [x,.fn (.func f) [] cs] h λr h'=>r=i64 (JV rows p)/\h'=h:=by
 refine zj Tryz.f259 [.tmp 4] 19 rfl rfl rfl rfl rfl rfl (by decide) (⟨_,_,⟨rfl,rfl⟩,.refl⟩) λB=>?_
 simp only[go_sem,o.rows]
 refine zO (by decide) (λn T h'=>h'=h/\∃k:Nat,T 0=x/\T 1= .fn (.func f) [] cs/\T 7=i64 rows.length/\T 8=i64 k/\k<=rows.length/\(∀j (e:j<rows.length),j<k->p rows[j]=false)/\n=rows.length - k) rows.length
  ⟨rfl,0,by simp only[go_sem],by simp only[go_sem],by simp only[go_sem],by(simp only[go_sem]<;>rfl),by omega,λ_ _ h=>by omega,rfl⟩ ?_
 rintro n T h' ⟨rfl,k,t0,t1,s,t8,C,h0,rfl⟩
 simp only[go_sem,s,t8]
 refine ways (λm=>?_) (λm=>?_)
 ·have a:k<rows.length:=by simpa using m
  have q:=o.at a
  have b:rows[k]? =some rows[k]:=zi a
  have l:(k:Int)<rows.length:=by omega
  have v:=t rows[k] (zx a)
  obtain⟨a0,a1,d⟩:∃a0 a1,rows[k]=[a0,a1]:=by
   match hr:rows[k],v with
   | [a0,a1],_=>exact⟨_,_,rfl⟩
  have c:=u rows[k] (zx a) []
  rw[d] at b c
  simp only[zM,List.cons_append,List.nil_append,agA,nth] at c
  simp only[go_sem,q,o.rows,b,l,t0,t1,s,t8,Int.toNat_natCast,zf]
  refine zh c ?_
  rintro _ z ⟨rfl,w⟩
  subst w
  simp only[go_sem]
  refine ways (λg=>?_) (λg=>?_)
  ·simp only[go_sem,t8]
   rw[<-d] at g
   refine zn ?_<;>(simp only[go_sem,t8,wX a (λj e=>h0 j (by omega) e) g]<;>try rfl)
  ·simp only[go_sem,t8,xE (show k<9223372036854775807 by omega)]
   rw[<-d] at g
   refine⟨rows.length - (k+1),by omega,k+1,t0,t1,s,rfl,by omega,λj e y=>?_,rfl⟩
   rcases Nat.lt_or_ge j k with i|i
   ·exact h0 j e i
   ·have:j=k:=by omega
    subst this
    exact g
 ·have a:k=rows.length:=by
   have:¬ (k:Int)<rows.length:=by simpa using m
   omega
  simp only[go_sem]
  refine zn ?_<;>(simp only[go_sem,yz λj e=>h0 j e (by omega)]<;>try rfl)
theorem xJb(h:List Ob)(x:AV)(f:FuncId)(cs:List AV)(rows:List (List AV))(p:List AV->Bool)(b:rows.length<9223372036854775808)(d:∀r∈rows,r.length=2)(a:SlOf h x 2 rows)(e:ZD h f cs agA rows p):
  ACalls Tryz.prog 213 [x,.fn (.func f) [] cs] h λr h'=>r=bl (rows.any p)/\h'=h:=by
 refine zj Tryz.f213 [.tmp 4] 9 rfl rfl rfl rfl rfl rfl (by decide) (⟨_,_,⟨rfl,rfl⟩,.refl⟩) λB=>?_
 simp only[go_sem]
 refine zh (xIb h x f cs rows p b d a e) ?_
 rintro _ g ⟨rfl,c⟩
 subst c
 simp only[go_sem,yR]
 refine zn ?_<;>(simp only[go_sem,yR]<;>try rfl)
theorem xKb(h:List Ob)(x:AV)(f:FuncId)(cs:List AV)(rows:List (List AV))(p:List AV->Bool)(A:rows.length<9223372036854775808)(t:∀r∈rows,r.length=3)(o:SlOf h x 3 rows)(u:ZD h f cs agA rows p):
  ACalls Tryz.prog 212 [x,.fn (.func f) [] cs] h λr h'=>r=i64 (JV rows p)/\h'=h:=by
 refine zj Tryz.f212 [.tmp 4] 19 rfl rfl rfl rfl rfl rfl (by decide) (⟨_,_,⟨rfl,rfl⟩,.refl⟩) λB=>?_
 simp only[go_sem,o.rows]
 refine zO (by decide) (λn T h'=>h'=h/\∃k:Nat,T 0=x/\T 1= .fn (.func f) [] cs/\T 7=i64 rows.length/\T 8=i64 k/\k<=rows.length/\(∀j (e:j<rows.length),j<k->p rows[j]=false)/\n=rows.length - k) rows.length
  ⟨rfl,0,by simp only[go_sem],by simp only[go_sem],by simp only[go_sem],by(simp only[go_sem]<;>rfl),by omega,λ_ _ h=>by omega,rfl⟩ ?_
 rintro n T h' ⟨rfl,k,t0,t1,s,t8,C,h0,rfl⟩
 simp only[go_sem,s,t8]
 refine ways (λm=>?_) (λm=>?_)
 ·have a:k<rows.length:=by simpa using m
  have q:=o.at a
  have b:rows[k]? =some rows[k]:=zi a
  have l:(k:Int)<rows.length:=by omega
  have v:=t rows[k] (zx a)
  obtain⟨a0,a1,a2,d⟩:∃a0 a1 a2,rows[k]=[a0,a1,a2]:=by
   match hr:rows[k],v with
   | [a0,a1,a2],_=>exact⟨_,_,_,rfl⟩
  have c:=u rows[k] (zx a) []
  rw[d] at b c
  simp only[zM,List.cons_append,List.nil_append,agA,nth] at c
  simp only[go_sem,q,o.rows,b,l,t0,t1,s,t8,Int.toNat_natCast,zf]
  refine zh c ?_
  rintro _ z ⟨rfl,w⟩
  subst w
  simp only[go_sem]
  refine ways (λg=>?_) (λg=>?_)
  ·simp only[go_sem,t8]
   rw[<-d] at g
   refine zn ?_<;>(simp only[go_sem,t8,wX a (λj e=>h0 j (by omega) e) g]<;>try rfl)
  ·simp only[go_sem,t8,xE (show k<9223372036854775807 by omega)]
   rw[<-d] at g
   refine⟨rows.length - (k+1),by omega,k+1,t0,t1,s,rfl,by omega,λj e y=>?_,rfl⟩
   rcases Nat.lt_or_ge j k with i|i
   ·exact h0 j e i
   ·have:j=k:=by omega
    subst this
    exact g
 ·have a:k=rows.length:=by
   have:¬ (k:Int)<rows.length:=by simpa using m
   omega
  simp only[go_sem]
  refine zn ?_<;>(simp only[go_sem,yz λj e=>h0 j e (by omega)]<;>try rfl)
theorem c78(h:List Ob)(x:AV)(f:FuncId)(cs:List AV)(rows:List (List AV))(p:List AV->Bool)(b:rows.length<9223372036854775808)(d:∀r∈rows,r.length=3)(a:SlOf h x 3 rows)(e:ZD h f cs agA rows p):
  ACalls Tryz.prog 143 [x,.fn (.func f) [] cs] h λr h'=>r=bl (rows.any p)/\h'=h:=by
 refine zj Tryz.f143 [.tmp 4] 9 rfl rfl rfl rfl rfl rfl (by decide) (⟨_,_,⟨rfl,rfl⟩,.refl⟩) λB=>?_
 simp only[go_sem]
 refine zh (xKb h x f cs rows p b d a e) ?_
 rintro _ g ⟨rfl,c⟩
 subst c
 simp only[go_sem,yR]
 refine zn ?_<;>(simp only[go_sem,yR]<;>try rfl)
theorem xLb(h:List Ob)(x:AV)(f:FuncId)(cs:List AV)(rows:List (List AV))(p:List AV->Bool)(A:rows.length<9223372036854775808)(t:∀r∈rows,r.length=4)(o:SlOf h x 4 rows)(u:ZD h f cs agA rows p):
  ACalls Tryz.prog 215 [x,.fn (.func f) [] cs] h λr h'=>r=i64 (JV rows p)/\h'=h:=by
 refine zj Tryz.f215 [.tmp 4] 19 rfl rfl rfl rfl rfl rfl (by decide) (⟨_,_,⟨rfl,rfl⟩,.refl⟩) λB=>?_
 simp only[go_sem,o.rows]
 refine zO (by decide) (λn T h'=>h'=h/\∃k:Nat,T 0=x/\T 1= .fn (.func f) [] cs/\T 7=i64 rows.length/\T 8=i64 k/\k<=rows.length/\(∀j (e:j<rows.length),j<k->p rows[j]=false)/\n=rows.length - k) rows.length
  ⟨rfl,0,by simp only[go_sem],by simp only[go_sem],by simp only[go_sem],by(simp only[go_sem]<;>rfl),by omega,λ_ _ h=>by omega,rfl⟩ ?_
 rintro n T h' ⟨rfl,k,t0,t1,s,t8,C,h0,rfl⟩
 simp only[go_sem,s,t8]
 refine ways (λm=>?_) (λm=>?_)
 ·have a:k<rows.length:=by simpa using m
  have q:=o.at a
  have b:rows[k]? =some rows[k]:=zi a
  have l:(k:Int)<rows.length:=by omega
  have v:=t rows[k] (zx a)
  obtain⟨a0,a1,a2,a3,d⟩:∃a0 a1 a2 a3,rows[k]=[a0,a1,a2,a3]:=by
   match hr:rows[k],v with
   | [a0,a1,a2,a3],_=>exact⟨_,_,_,_,rfl⟩
  have c:=u rows[k] (zx a) []
  rw[d] at b c
  simp only[zM,List.cons_append,List.nil_append,agA,nth] at c
  simp only[go_sem,q,o.rows,b,l,t0,t1,s,t8,Int.toNat_natCast,zf]
  refine zh c ?_
  rintro _ z ⟨rfl,w⟩
  subst w
  simp only[go_sem]
  refine ways (λg=>?_) (λg=>?_)
  ·simp only[go_sem,t8]
   rw[<-d] at g
   refine zn ?_<;>(simp only[go_sem,t8,wX a (λj e=>h0 j (by omega) e) g]<;>try rfl)
  ·simp only[go_sem,t8,xE (show k<9223372036854775807 by omega)]
   rw[<-d] at g
   refine⟨rows.length - (k+1),by omega,k+1,t0,t1,s,rfl,by omega,λj e y=>?_,rfl⟩
   rcases Nat.lt_or_ge j k with i|i
   ·exact h0 j e i
   ·have:j=k:=by omega
    subst this
    exact g
 ·have a:k=rows.length:=by
   have:¬ (k:Int)<rows.length:=by simpa using m
   omega
  simp only[go_sem]
  refine zn ?_<;>(simp only[go_sem,yz λj e=>h0 j e (by omega)]<;>try rfl)
theorem c81(h:List Ob)(x:AV)(f:FuncId)(cs:List AV)(rows:List (List AV))(p:List AV->Bool)(b:rows.length<9223372036854775808)(d:∀r∈rows,r.length=4)(a:SlOf h x 4 rows)(e:ZD h f cs agA rows p):
  ACalls Tryz.prog 146 [x,.fn (.func f) [] cs] h λr h'=>r=bl (rows.any p)/\h'=h:=by
 refine zj Tryz.f146 [.tmp 4] 9 rfl rfl rfl rfl rfl rfl (by decide) (⟨_,_,⟨rfl,rfl⟩,.refl⟩) λB=>?_
 simp only[go_sem]
 refine zh (xLb h x f cs rows p b d a e) ?_
 rintro _ g ⟨rfl,c⟩
 subst c
 simp only[go_sem,yR]
 refine zn ?_<;>(simp only[go_sem,yR]<;>try rfl)
theorem c42(h:List Ob)(x:AV)(f:FuncId)(cs:List AV)(rows:List (List AV))(p:List AV->Bool)(F:rows.length<9223372036854775808)(y:∀r∈rows,r.length=11)(s:SlOf h x 11 rows)(z:ZD h f cs agA rows p):
  ACalls Tryz.prog 61 [x,.fn (.func f) [] cs] h λr h'=>r=i64 (JV rows p)/\h'=h:=by
 refine zj Tryz.f61 [.tmp 4] 19 rfl rfl rfl rfl rfl rfl (by decide) (⟨_,_,⟨rfl,rfl⟩,.refl⟩) λB=>?_
 simp only[go_sem,s.rows]
 refine zO (by decide) (λn T h'=>h'=h/\∃k:Nat,T 0=x/\T 1= .fn (.func f) [] cs/\T 7=i64 rows.length/\T 8=i64 k/\k<=rows.length/\(∀j (g:j<rows.length),j<k->p rows[j]=false)/\n=rows.length - k) rows.length
  ⟨rfl,0,by simp only[go_sem],by simp only[go_sem],by simp only[go_sem],by(simp only[go_sem]<;>rfl),by omega,λ_ _ h=>by omega,rfl⟩ ?_
 rintro n T h' ⟨rfl,k,t0,t1,w,t8,G,h0,rfl⟩
 simp only[go_sem,w,t8]
 refine ways (λq=>?_) (λq=>?_)
 ·have a:k<rows.length:=by simpa using q
  have v:=s.at a
  have b:rows[k]? =some rows[k]:=zi a
  have o:(k:Int)<rows.length:=by omega
  have A:=y rows[k] (zx a)
  obtain⟨a0,a1,a2,a3,a4,a5,u,t,m,a9,d,e⟩:∃a0 a1 a2 a3 a4 a5 u t m a9 d,rows[k]=[a0,a1,a2,a3,a4,a5,u,t,m,a9,d]:=by
   match hr:rows[k],A with
   | [a0,a1,a2,a3,a4,a5,u,t,m,a9,d],_=>exact⟨_,_,_,_,_,_,_,_,_,_,_,rfl⟩
  have c:=z rows[k] (zx a) []
  rw[e] at b c
  simp only[zM,List.cons_append,List.nil_append,agA,nth] at c
  simp only[go_sem,v,s.rows,b,o,t0,t1,w,t8,Int.toNat_natCast,zf]
  refine zh c ?_
  rintro _ E ⟨rfl,C⟩
  subst C
  simp only[go_sem]
  refine ways (λi=>?_) (λi=>?_)
  ·simp only[go_sem,t8]
   rw[<-e] at i
   refine zn ?_<;>(simp only[go_sem,t8,wX a (λj g=>h0 j (by omega) g) i]<;>try rfl)
  ·simp only[go_sem,t8,xE (show k<9223372036854775807 by omega)]
   rw[<-e] at i
   refine⟨rows.length - (k+1),by omega,k+1,t0,t1,w,rfl,by omega,λj g D=>?_,rfl⟩
   rcases Nat.lt_or_ge j k with l|l
   ·exact h0 j g l
   ·have:j=k:=by omega
    subst this
    exact i
 ·have a:k=rows.length:=by
   have:¬ (k:Int)<rows.length:=by simpa using q
   omega
  simp only[go_sem]
  refine zn ?_<;>(simp only[go_sem,yz λj g=>h0 j g (by omega)]<;>try rfl)
