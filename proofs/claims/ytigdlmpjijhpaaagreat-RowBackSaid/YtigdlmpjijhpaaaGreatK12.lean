import Derived.Test.YtigdlmpjijhpaaaGreatKA
import Derived.Test.YtigdlmpjijhpaaaGreatK11
import Derived.Test.YtigdlmpjijhpaaaGreatK10
import Derived.IntWalk
set_option linter.all false
namespace Go.Proofs.YtigdlmpjijhpaaaGreat.Ax
open Go Go.Proofs
set_option maxRecDepth 100000
attribute [go_sem] ty3 ty4 Q1a Kia Kja
abbrev i64(n:Int):AV:= .v (.int .i64 n)
abbrev bl(b:Bool):AV:= .v (.bool b)
abbrev XJa(n d:Int):AV:= .ag [i64 n,i64 d]
abbrev wr(n:Int):Int:=IntKind.wrap .i64 n
theorem c52:xv Tryz.prog 202 [] (XJa 0 1):=λh=>by
 refine zl Tryz.f202 [.cell 0 24] 2 rfl rfl rfl rfl rfl rfl (by decide) (⟨_,_,⟨rfl,rfl⟩,.refl⟩) λB=>?_
 simp only[go_sem]
 refine zk ?_<;>(simp only[go_sem]<;>try rfl)
def QC(n:Int):Int:=if n= -9223372036854775808 then 4611686018427387904 else if n<0 then wr (0 - n) else n
theorem c84(n:Int):xv Tryz.prog 258 [i64 n] (i64 (QC n)):=λh=>by
 refine zl Tryz.f258 [.tmp 2] 12 rfl rfl rfl rfl rfl rfl (by decide) (⟨_,_,⟨rfl,rfl⟩,.refl⟩) λB=>?_
 simp only[go_sem]
 refine ways (λe=>?_) (λe=>?_)
 ·simp only[beq_iff_eq] at e
  refine zk ?_<;>(simp only[go_sem,QC,e]<;>try rfl)
 ·simp only[beq_eq_false_iff_ne,ne_eq] at e
  simp only[go_sem]
  refine ways (λa=>?_) (λa=>?_)
  ·simp only[decide_eq_true_eq] at a
   simp only[go_sem]
   refine zk ?_<;>(simp only[go_sem,QC,e,a]<;>try rfl)
  ·simp only[decide_eq_false_iff_not] at a
   simp only[go_sem]
   refine zk ?_<;>(simp only[go_sem,QC,e,a]<;>try rfl)
def Fit(n:Int):Prop:= -9223372036854775808<=n/\n<=9223372036854775807
theorem qb{n:Int}(h:Fit n):wr n=n:=Go.IntWalk.i64_in n h
theorem kTa{n:Int}(h:Fit n):0<=QC n:=by
 unfold QC
 split
 ·omega
 ·split
  ·rw[qb (by unfold Fit at *; omega)];omega
  ·omega
def K5(a b:Int):Int:=(Nat.gcd (QC a).toNat (QC b).toNat:Int)
theorem c53(a b:Int)(i:Fit a)(g:Fit b):xv Tryz.prog 204 [i64 a,i64 b] (i64 (K5 a b)):=λh=>by
 refine zl Tryz.f204 [.tmp 4] 16 rfl rfl rfl rfl rfl rfl (by decide) (⟨_,_,⟨rfl,rfl⟩,.refl⟩) λB=>?_
 simp only[go_sem]
 refine zi (c84 a h) ?_
 rintro _ _ ⟨rfl,rfl⟩
 simp only[go_sem]
 refine zi (c84 b _) ?_
 rintro _ _ ⟨rfl,rfl⟩
 simp only[go_sem]
 rename_i h
 refine zO (by decide) (λn T h'=>h'=h/\∃x y:Nat,T 0=i64 x/\T 1=i64 y/\Nat.gcd x y=Nat.gcd (QC a).toNat (QC b).toNat/\y=n) _ ⟨rfl,(QC a).toNat,(QC b).toNat,?_,?_,rfl,rfl⟩ ?_
 ·simp only[go_sem,xU (kTa i)]
 ·simp only[go_sem,xU (kTa g)]
 rintro n T h ⟨rfl,x,y,h0,f,d,rfl⟩
 simp only[go_sem,h0,f]
 refine ways (λe=>?_) (λe=>?_)
 ·simp only[go_sem]
  have hyp:0<y:=by simpa using e
  have c:¬ (y:Int)=0:=by omega
  refine zV rfl [] 0 [(0,0,[]),(1,0,[]),(2,0,[]),(3,0,[]),(4,0,[]),(5,0,[])] rfl (by decide) (by decide) ?_
  simp only[go_sem,h0,f,c]
  refine⟨x % y,Nat.mod_lt _ hyp,y,x % y,rfl,by rw[Int.ofNat_tmod],?_,rfl⟩
  rw[<-d,Nat.gcd_comm y, <-Nat.gcd_rec,Nat.gcd_comm]
 ·simp only[go_sem]
  have c:y=0:=by simpa using e
  subst c
  rw[Nat.gcd_zero_right] at d
  simp only[go_sem,h0]
  refine zk ?_<;>(simp only[go_sem,K5,h0,d]<;>try rfl)
theorem Zaa{a b:Int}(c:Fit b)(h:0<b):0<K5 a b:=by
 have:QC b=b:=by
  unfold QC
  split
  ·omega
  ·split<;>omega
 unfold K5
 rw[this]
 have:=Nat.gcd_pos_of_pos_right (QC a).toNat (show 0<b.toNat by omega)
 omega
abbrev qd:=Int × Int
abbrev rat(p:qd):AV:=XJa p.1 p.2
def make(n d:Int):qd × Int:=
 if d<=0 then((0,0),20) else if n=0 then((0,1),0) else
  if wr (n.tdiv (K5 n d))>2147483647∨wr (n.tdiv (K5 n d))< -2147483647∨wr (d.tdiv (K5 n d))>2147483647 then((0,0),10) else((wr (n.tdiv (K5 n d)),wr (d.tdiv (K5 n d))),0)
abbrev Xt(p:qd × Int):AV:= .tup [rat p.1,i64 p.2]
theorem c18(n d:Int)(k:Fit n)(i:Fit d):xv Tryz.prog 129 [i64 n,i64 d] (Xt (make n d)):=λh=>by
 refine zl Tryz.f129 [.cell 4 24,.tmp 5] 36 rfl rfl rfl rfl rfl rfl (by decide) (⟨_,_,⟨rfl,rfl⟩,.refl⟩) λB=>?_
 simp only[go_sem]
 refine ways (λe=>?_) (λe=>?_)
 ·simp only[decide_eq_true_eq] at e
  simp only[go_sem]
  refine zk ?_<;>(simp only[go_sem,make,e]<;>try rfl)
 simp only[decide_eq_false_iff_not] at e
 simp only[go_sem]
 refine ways (λf=>?_) (λf=>?_)
 ·simp only[beq_iff_eq] at f
  simp only[go_sem]
  refine zi (c52 _) ?_
  rintro _ _ ⟨rfl,rfl⟩
  simp only[go_sem]
  refine zk ?_<;>(simp only[go_sem,make,e,f]<;>try rfl)
 simp only[beq_eq_false_iff_ne,ne_eq] at f
 simp only[go_sem]
 refine zi (c53 n d k i _) ?_
 rintro _ _ ⟨rfl,rfl⟩
 simp only[go_sem]
 refine zV rfl [] 0 [(0,0,[]),(1,0,[]),(2,0,[]),(3,0,[]),(4,0,[]),(5,0,[]),(6,0,[]),(7,0,[])] rfl (by decide) (by decide) ?_
 have j:¬ K5 n d=0:=by have:=Zaa (a:=n) i (by omega);omega
 simp only[go_sem,j]
 refine ways (λb=>?_) (λb=>?_)
 ·have b:=kx b
  simp only[go_sem,b]
  refine ways (λc=>?_) (λc=>?_)
  ·have c:=kx c
   simp only[go_sem,c]
   refine ways (λg=>?_) (λg=>?_)
   ·simp only[go_sem]
    simp only[decide_eq_true_eq,decide_eq_false_iff_not] at b c g
    refine zk ?_<;>(simp only[go_sem,make,e,f,b,c,g,or_true]<;>try rfl)
   ·simp only[go_sem]
    simp only[decide_eq_true_eq,decide_eq_false_iff_not] at b c g
    refine zk ?_<;>(simp only[go_sem,make,e,f,b,c,g,or_self]<;>try rfl)
  ·have c:=kw c
   simp only[go_sem,c]
   simp only[decide_eq_true_eq,decide_eq_false_iff_not] at b c
   refine zk ?_<;>(simp only[go_sem,make,e,f,b,c,true_or,or_true]<;>try rfl)
 ·have b:=kw b
  simp only[go_sem,b]
  simp only[decide_eq_true_eq] at b
  refine zk ?_<;>(simp only[go_sem,make,e,f,b,true_or]<;>try rfl)
def rok(p:qd):Bool:=(make p.1 p.2).2==0 && ((make p.1 p.2).1.1==p.1 && (make p.1 p.2).1.2==p.2)
theorem c27(p:qd)(b:Fit p.1)(a:Fit p.2):xv Tryz.prog 133 [rat p] (bl (rok p)):=λh=>by
 refine zl Tryz.f133 [.tmp 2] 20 rfl rfl rfl rfl rfl rfl (by decide) (⟨_,_,⟨rfl,rfl⟩,.refl⟩) λB=>?_
 simp only[go_sem]
 refine zi (c18 p.1 p.2 b a _) ?_
 rintro _ _ ⟨rfl,rfl⟩
 simp only[go_sem]
 refine ways (λe=>?_) (λe=>?_)
 ·have e:=xq e
  simp only[go_sem,e]
  refine zk ?_<;>(simp only[go_sem,rok,e]<;>try rfl)
 ·have e:=xo e
  simp only[go_sem,e]
  refine zk ?_<;>(simp only[go_sem,rok,e]<;>try rfl)
theorem ky(n:Int):Fit (wr n):=by
 unfold Fit wr
 rw[IntKind.wrap_i64]
 omega
def jf(p:qd):Prop:=Fit p.1/\Fit p.2
def Two(f:FuncId)(v:qd->qd->Int × Int):Prop:=∀(h:List Ob) (i j:Nat) (a b:qd),h[i]? =some (.box 24 [i64 a.1,i64 a.2])->h[j]? =some (.box 24 [i64 b.1,i64 b.2])->
 ACalls Tryz.prog f [.ptr i 0,.ptr j 0] h λr h'=>r= .tup [i64 (v a b).1,i64 (v a b).2]/\h'=h
theorem c55:Two 206 λa b=>(wr (wr (a.1*b.2) - wr (b.1*a.2)),wr (a.2*b.2)):=λh i j a b hi c=>by
 refine zl Tryz.f206 [.tmp 2,.tmp 3] 20 rfl rfl rfl rfl rfl rfl (by decide) (⟨_,_,⟨rfl,rfl⟩,.refl⟩) λB=>?_
 simp only[go_sem]
 refine zV rfl [] 0 [(0,0,[]),(2,0,[]),(5,0,[]),(7,0,[]),(11,0,[]),(13,0,[]),(1,0,[]),(3,0,[]),(4,0,[]),(6,0,[]),(8,0,[]),(9,0,[]),(10,0,[]),(16,0,[]),(12,0,[]),(14,0,[]),(15,0,[]),(17,0,[])] rfl (by decide) (by decide) ?_
 simp only[go_sem,hi,c]
 refine zk ?_<;>(simp only[go_sem]<;>try rfl)
theorem c92:Two 257 λa b=>(wr (wr (a.1*b.2)+wr (b.1*a.2)),wr (a.2*b.2)):=λh i j a b hi c=>by
 refine zl Tryz.f257 [.tmp 2,.tmp 3] 20 rfl rfl rfl rfl rfl rfl (by decide) (⟨_,_,⟨rfl,rfl⟩,.refl⟩) λB=>?_
 simp only[go_sem]
 refine zV rfl [] 0 [(0,0,[]),(2,0,[]),(5,0,[]),(7,0,[]),(11,0,[]),(13,0,[]),(1,0,[]),(3,0,[]),(4,0,[]),(6,0,[]),(8,0,[]),(9,0,[]),(10,0,[]),(16,0,[]),(12,0,[]),(14,0,[]),(15,0,[]),(17,0,[])] rfl (by decide) (by decide) ?_
 simp only[go_sem,hi,c]
 refine zk ?_<;>(simp only[go_sem]<;>try rfl)
theorem c64:Two 256 λa b=>(wr (a.1*b.1),wr (a.2*b.2)):=λh i j a b hi c=>by
 refine zl Tryz.f256 [.tmp 2,.tmp 3] 14 rfl rfl rfl rfl rfl rfl (by decide) (⟨_,_,⟨rfl,rfl⟩,.refl⟩) λB=>?_
 simp only[go_sem]
 refine zV rfl [] 0 [(0,0,[]),(2,0,[]),(5,0,[]),(7,0,[]),(1,0,[]),(3,0,[]),(4,0,[]),(10,0,[]),(6,0,[]),(8,0,[]),(9,0,[]),(11,0,[])] rfl (by decide) (by decide) ?_
 simp only[go_sem,hi,c]
 refine zk ?_<;>(simp only[go_sem]<;>try rfl)
theorem c75:Two 207 λa b=>(wr (a.1*b.2),wr (a.2*b.1)):=λh i j a b hi c=>by
 refine zl Tryz.f207 [.tmp 2,.tmp 3] 14 rfl rfl rfl rfl rfl rfl (by decide) (⟨_,_,⟨rfl,rfl⟩,.refl⟩) λB=>?_
 simp only[go_sem]
 refine zV rfl [] 0 [(0,0,[]),(2,0,[]),(5,0,[]),(7,0,[]),(1,0,[]),(3,0,[]),(4,0,[]),(10,0,[]),(6,0,[]),(8,0,[]),(9,0,[]),(11,0,[])] rfl (by decide) (by decide) ?_
 simp only[go_sem,hi,c]
 refine zk ?_<;>(simp only[go_sem]<;>try rfl)
def yi(v:qd->qd->Int × Int)(a b:qd):qd × Int:=if(rok a && rok b)=true then make (v a b).1 (v a b).2 else((0,0),20)
theorem c54(h:List Ob)(a b:qd)(i:jf a)(g:jf b)(f:FuncId)(cs:List AV)(n d:Int)(l:Fit n)(j:Fit d)(k:∀L,ACalls Tryz.prog f cs (h++L) λr h'=>r= .tup [i64 n,i64 d]/\h'=h++L):
  ACalls Tryz.prog 205 [rat a,rat b,.fn (.func f) [] cs] h λr h'=>r=Xt (if(rok a && rok b)=true then make n d else((0,0),20))/\h'=h:=by
 refine zl Tryz.f205 [.cell 6 24,.tmp 7] 24 rfl rfl rfl rfl rfl rfl (by decide) (⟨_,_,⟨rfl,rfl⟩,.refl⟩) λB=>?_
 simp only[go_sem]
 refine zi (c27 a i.1 i.2 _) ?_
 rintro _ _ ⟨rfl,rfl⟩
 simp only[go_sem]
 refine ways (λe=>?_) (λe=>?_)
 ·have e:=kx e
  simp only[Bool.not_eq_false'] at e
  simp only[go_sem,e]
  refine zi (c27 b g.1 g.2 _) ?_
  rintro _ _ ⟨rfl,rfl⟩
  simp only[go_sem,e]
  refine ways (λc=>?_) (λc=>?_)
  ·simp only[Bool.not_eq_true'] at c
   simp only[go_sem,e,c]
   refine zk ?_<;>(simp only[go_sem,e,c]<;>try rfl)
  ·simp only[Bool.not_eq_false'] at c
   simp only[go_sem,e,c]
   refine zi (k _) ?_
   rintro _ _ ⟨rfl,rfl⟩
   simp only[go_sem]
   refine zi (c18 n d l j _) ?_
   rintro _ _ ⟨rfl,rfl⟩
   simp only[go_sem]
   refine zk ?_<;>(simp only[go_sem,e,c]<;>try rfl)
 ·have e:=kw e
  simp only[Bool.not_eq_true'] at e
  simp only[go_sem,e]
  refine zk ?_<;>(simp only[go_sem,e]<;>try rfl)
theorem Q6a{f:FuncId}{v:qd->qd->Int × Int}(d:Two f v)(c:∀a b,Fit (v a b).1/\Fit (v a b).2){h:List Ob}(a b:qd)(g:jf a)(e:jf b)(i j:Nat)(hi:h[i]? =some (.box 24 [i64 a.1,i64 a.2]))(k:h[j]? =some (.box 24 [i64 b.1,i64 b.2])):
  ACalls Tryz.prog 205 [rat a,rat b,.fn (.func f) [] [.ptr i 0,.ptr j 0]] h λr h'=>r=Xt (yi v a b)/\h'=h:=
 c54 h a b g e f _ _ _ (c a b).1 (c a b).2 λL=>d _ i j a b (zf hi) (zf k)
abbrev Q7a(a b:qd):Int × Int:=(wr (wr (a.1*b.2) - wr (b.1*a.2)),wr (a.2*b.2))
abbrev wka(a b:qd):Int × Int:=(wr (wr (a.1*b.2)+wr (b.1*a.2)),wr (a.2*b.2))
abbrev zRa(a b:qd):Int × Int:=(wr (a.1*b.1),wr (a.2*b.2))
abbrev Zba(a b:qd):Int × Int:=(wr (a.1*b.2),wr (a.2*b.1))
theorem c19(a b:qd)(c:jf a)(d:jf b):xv Tryz.prog 131 [rat a,rat b] (Xt (yi Q7a a b)):=λh=>by
 refine zl Tryz.f131 [.cell 4 24,.tmp 5] 12 rfl rfl rfl rfl rfl rfl (by decide) (⟨_,_,⟨rfl,rfl⟩,.refl⟩) λB=>?_
 simp only[go_sem]
 refine zi (Q6a (v:=Q7a) c55 (λ_ _=>⟨ky _,ky _⟩) a b c d _ _ (by simp only[go_sem]) (by simp only[go_sem])) ?_
 rintro _ _ ⟨rfl,rfl⟩
 simp only[go_sem]
 refine zk ?_<;>(simp only[go_sem]<;>try rfl)
theorem c63(a b:qd)(c:jf a)(d:jf b):xv Tryz.prog 203 [rat a,rat b] (Xt (yi wka a b)):=λh=>by
 refine zl Tryz.f203 [.cell 4 24,.tmp 5] 12 rfl rfl rfl rfl rfl rfl (by decide) (⟨_,_,⟨rfl,rfl⟩,.refl⟩) λB=>?_
 simp only[go_sem]
 refine zi (Q6a (v:=wka) c92 (λ_ _=>⟨ky _,ky _⟩) a b c d _ _ (by simp only[go_sem]) (by simp only[go_sem])) ?_
 rintro _ _ ⟨rfl,rfl⟩
 simp only[go_sem]
 refine zk ?_<;>(simp only[go_sem]<;>try rfl)
theorem c24(a b:qd)(c:jf a)(d:jf b):xv Tryz.prog 201 [rat a,rat b] (Xt (yi zRa a b)):=λh=>by
 refine zl Tryz.f201 [.cell 4 24,.tmp 5] 12 rfl rfl rfl rfl rfl rfl (by decide) (⟨_,_,⟨rfl,rfl⟩,.refl⟩) λB=>?_
 simp only[go_sem]
 refine zi (Q6a (v:=zRa) c64 (λ_ _=>⟨ky _,ky _⟩) a b c d _ _ (by simp only[go_sem]) (by simp only[go_sem])) ?_
 rintro _ _ ⟨rfl,rfl⟩
 simp only[go_sem]
 refine zk ?_<;>(simp only[go_sem]<;>try rfl)
theorem c46(a b:qd)(c:jf a)(d:jf b):xv Tryz.prog 132 [rat a,rat b] (Xt (yi Zba a b)):=λh=>by
 refine zl Tryz.f132 [.cell 4 24,.tmp 5] 12 rfl rfl rfl rfl rfl rfl (by decide) (⟨_,_,⟨rfl,rfl⟩,.refl⟩) λB=>?_
 simp only[go_sem]
 refine zi (Q6a (v:=Zba) c75 (λ_ _=>⟨ky _,ky _⟩) a b c d _ _ (by simp only[go_sem]) (by simp only[go_sem])) ?_
 rintro _ _ ⟨rfl,rfl⟩
 simp only[go_sem]
 refine zk ?_<;>(simp only[go_sem]<;>try rfl)
def V1(a b:qd):Bool:=rok a && rok b && decide (wr (a.1*b.2)<wr (b.1*a.2))
theorem c20(a b:qd)(d:jf a)(f:jf b):xv Tryz.prog 134 [rat a,rat b] (bl (V1 a b)):=λh=>by
 refine zl Tryz.f134 [.tmp 4] 24 rfl rfl rfl rfl rfl rfl (by decide) (⟨_,_,⟨rfl,rfl⟩,.refl⟩) λB=>?_
 simp only[go_sem]
 refine zi (c27 a d.1 d.2 _) ?_
 rintro _ _ ⟨rfl,rfl⟩
 simp only[go_sem]
 refine ways (λe=>?_) (λe=>?_)
 ·have e:=xq e
  simp only[go_sem,e]
  refine zi (c27 b f.1 f.2 _) ?_
  rintro _ _ ⟨rfl,rfl⟩
  simp only[go_sem,e]
  refine ways (λc=>?_) (λc=>?_)
  ·have c:=xq c
   simp only[go_sem,e,c]
   refine zk ?_<;>(simp only[go_sem,V1,e,c]<;>try rfl)
  ·have c:=xo c
   simp only[go_sem,e,c]
   refine zk ?_<;>(simp only[go_sem,V1,e,c]<;>try rfl)
 ·have e:=xo e
  simp only[go_sem,e]
  refine zk ?_<;>(simp only[go_sem,V1,e]<;>try rfl)
attribute [go_sem] y5a
theorem xS{k:Nat}(h:k<9223372036854775807):wr ((k:Int)+1)=((k+1:Nat):Int):=by rw[qb (by unfold Fit;omega)];rfl
def jG(p:qd):List AV:=[i64 p.1,i64 p.2]
theorem Zt(n d:Int):jf (make n d).1:=by
 unfold make jf
 split
 ·exact⟨⟨by decide,by decide⟩,⟨by decide,by decide⟩⟩
 ·split
  ·exact⟨⟨by decide,by decide⟩,⟨by decide,by decide⟩⟩
  ·split
   ·exact⟨⟨by decide,by decide⟩,⟨by decide,by decide⟩⟩
   ·exact⟨ky _,ky _⟩
theorem Xu(v:qd->qd->Int × Int)(a b:qd):jf (yi v a b).1:=by
 unfold yi
 split
 ·exact Zt _ _
 ·exact⟨⟨by decide,by decide⟩,⟨by decide,by decide⟩⟩
def K6:qd->List qd->qd × Int
 | out,[]=>(out,0)
 | out,r::l=>if(yi wka out r).2≠0 then((0,0),(yi wka out r).2) else K6 (yi wka out r).1 l
def wU(l:List qd):qd × Int:=if l.all rok then K6 (0,1) l else((0,0),20)
theorem c23(h:List Ob)(x:AV)(l:List qd)(v:∀p∈l,jf p)(D:l.length<1099511627776)(y:SlOf h x 2 (l.map jG)):
  ACalls Tryz.prog 128 [x] h λr h'=>r=Xt (wU l)/\h'=h:=by
 refine zl Tryz.f128 [.cell 2 24,.tmp 3] 38 rfl rfl rfl rfl rfl rfl (by decide) (⟨_,_,⟨rfl,rfl⟩,.refl⟩) λB=>?_
 simp only[go_sem]
 refine zi (c52 _) ?_
 rintro _ E ⟨rfl,f⟩
 subst f
 have F:∀L,zZ (h++L) x=some (l.map jG):=λL=>(y.app L).rows
 simp only[go_sem,F,zb]
 refine zO (by decide) (λn T h'=>∃(k:Nat) (L:List Ob),h'=h++(Ob.box 24 [i64 0,i64 1]::L)/\T 0=x/\T 2= .ptr h.length 0/\T 9=x/\T 10=i64 l.length/\T 11=i64 k/\k<=l.length/\(l.take k).all rok=true/\n=l.length - k) l.length
  ⟨0,[],rfl,by simp only[go_sem],by simp only[go_sem],by simp only[go_sem],by simp only[go_sem],by(simp only[go_sem]<;>rfl),by omega,rfl,rfl⟩ ?_
 rintro n T h' ⟨k,L,e,t0,t2,t9,t10,g,C,b,rfl⟩
 have q:SlOf h' x 2 (l.map jG):=by subst e;exact y.app _
 simp only[go_sem,t9,t10,g]
 refine ways (λf=>?_) (λf=>?_)
 ·have a:k<l.length:=by simpa using f
  have u:=q.at (i:=k) (by simpa using a)
  have A:(l.map jG)[k]? =some (jG l[k]):=by simp[a]
  have j:(k:Int)<l.length:=by omega
  simp only[go_sem,u,q.rows,A,j,t9,t10,g,Int.toNat_natCast,zg,zb,jG]
  refine zi (c27 l[k] (v _ (zw a)).1 (v _ (zw a)).2 _) ?_
  rintro _ E ⟨rfl,z⟩
  subst z
  simp only[go_sem]
  refine ways (λd=>?_) (λd=>?_)
  ·simp only[Bool.not_eq_true'] at d
   have t:∀M,(h'++M)[h.length]? =some (Ob.box 24 [i64 0,i64 1]):=λM=>by subst e;simp only[go_sem]
   simp only[go_sem,t2,t]
   subst e
   simp only[go_sem]
   have D:l.all rok=false:=by
    rw[List.all_eq_false]
    exact⟨l[k],zw a,by simp[d]⟩
   refine zk ?_<;>(simp only[go_sem,t2,wU,D]<;>try rfl)
  ·simp only[Bool.not_eq_false'] at d
   simp only[go_sem,g,xS (show k<9223372036854775807 by omega)]
   refine⟨l.length - (k+1),by omega,k+1,L++[Ob.box 24 [i64 l[k].1,i64 l[k].2]],by rw[e];simp,t0,t2,t9,t10,rfl,by omega,?_,rfl⟩
   rw[List.take_add_one,zh a,List.all_append,b]
   simp only[Option.toList_some,List.all_cons,List.all_nil,d,Bool.and_self]
 ·have a:k=l.length:=by
   have:¬ (k:Int)<l.length:=by simpa using f
   omega
  have c:l.all rok=true:=by rw[a,zY] at b;exact b
  simp only[go_sem,t0,q.rows,zb]
  refine zO (by decide) (λn T h'=>∃(k:Nat) (out:qd) (L:List Ob),h'=h++(Ob.box 24 [i64 out.1,i64 out.2]::L)/\jf out/\T 2= .ptr h.length 0/\T 20=x/\T 21=i64 l.length/\T 22=i64 k/\k<=l.length/\K6 (0,1) l=K6 out (l.drop k)/\n=l.length - k) l.length
   ⟨0,(0,1),L,e,⟨⟨by decide,by decide⟩,⟨by decide,by decide⟩⟩,by simp only[go_sem,t2],by simp only[go_sem],by simp only[go_sem],by(simp only[go_sem]<;>rfl),by omega,rfl,rfl⟩ ?_
  clear q t0 t2 t9 t10 g C a f e b
  clear k L h' T
  rintro n T h' ⟨k,out,L,e,w,t2,m,o,t22,C,s,rfl⟩
  have q:SlOf h' x 2 (l.map jG):=by subst e;exact y.app _
  simp only[go_sem,m,o,t22]
  refine ways (λf=>?_) (λf=>?_)
  ·have a:k<l.length:=by simpa using f
   have u:=q.at (i:=k) (by simpa using a)
   have A:(l.map jG)[k]? =some (jG l[k]):=by simp[a]
   have j:(k:Int)<l.length:=by omega
   have t:∀M,(h'++M)[h.length]? =some (Ob.box 24 [i64 out.1,i64 out.2]):=λM=>by subst e;simp only[go_sem]
   simp only[go_sem,u,q.rows,A,j,t2,t,m,o,t22,Int.toNat_natCast,zg,zb,jG]
   refine zi (c63 out l[k] w (v _ (zw a)) _) ?_
   rintro _ E ⟨rfl,z⟩
   subst z
   simp only[go_sem,t2,t]
   refine ways (λd=>?_) (λd=>?_)
   ·simp only[bne_iff_ne,ne_eq] at d
    subst e
    simp only[go_sem,t2]
    rw[qp a] at s
    refine zk ?_<;>(simp only[go_sem,t2,wU,c,s,K6,d]<;>try rfl)
   ·simp only[bne_eq_false_iff_eq] at d
    simp only[go_sem,t22,xS (show k<9223372036854775807 by omega)]
    subst e
    refine⟨l.length - (k+1),by omega,k+1,(yi wka out l[k]).1,L++[Ob.box 24 [i64 l[k].1,i64 l[k].2]],by simp only[go_sem],Xu _ _ _,t2,m,o,rfl,by omega,?_,rfl⟩
    rw[s,qp a]
    simp[K6,d]
  ·have a:k=l.length:=by
    have:¬ (k:Int)<l.length:=by simpa using f
    omega
   rw[a,List.drop_length] at s
   subst e
   simp only[go_sem,t2]
   refine zk ?_<;>(simp only[go_sem,t2,wU,c,s,K6]<;>try rfl)
attribute [go_sem] Q0a Q2a wja Q3a Q4a Q5a y7a y6a y8a
def Zk(h:List Ob)(f:FuncId)(cs:List AV)(arg:List AV->AV)(rows:List (List AV))(p:List AV->Bool):Prop:=
 ∀row∈rows,∀L,ACalls Tryz.prog f ([arg row]++cs) (h++L) λr h'=>r=bl (p row)/\h'=h++L
def Xv(rows:List (List AV))(p:List AV->Bool):Int:=match rows.findIdx? p with
 | some i=>(i:Int)
 | none=> -1
theorem yF{rows:List (List AV)}{p:List AV->Bool}{k:Nat}(b:k<rows.length)(h0:∀j (a:j<k),p (rows[j]'(by omega))=false)(c:p rows[k]=true):Xv rows p=k:=by
 unfold Xv
 rw[List.findIdx?_eq_some_iff_getElem.2 ⟨b,c,λj a=>by simp[h0 j a]⟩]
theorem yx{rows:List (List AV)}{p:List AV->Bool}(h0:∀j (a:j<rows.length),p rows[j]=false):Xv rows p= -1:=by
 unfold Xv
 rw[List.findIdx?_eq_none_iff.2 λx b=>by obtain⟨j,a,e⟩:=List.getElem_of_mem b;rw[<-e];exact h0 j a]
theorem wO(rows:List (List AV))(p:List AV->Bool):decide (Xv rows p≥0)=rows.any p:=by
 unfold Xv
 cases h:rows.findIdx? p with
 | some i=>
   obtain⟨hi,a,_⟩:=List.findIdx?_eq_some_iff_getElem.1 h
   have:rows.any p=true:=List.any_eq_true.2 ⟨_,zw hi,a⟩
   rw[this]
   simp
 | none=>
   have:=List.findIdx?_eq_none_iff.1 h
   have:rows.any p=false:=List.any_eq_false.2 λx b=>by simp[this x b]
   rw[this]
   simp
abbrev agA(row:List AV):AV:= .ag row
abbrev Kka(row:List AV):AV:=nth row 0
theorem Yha(h:List Ob)(x:AV)(f:FuncId)(cs:List AV)(rows:List (List AV))(p:List AV->Bool)(A:rows.length<9223372036854775808)(u:∀r∈rows,r.length=1)(m:SlOf h x 1 rows)(w:Zk h f cs Kka rows p):
  ACalls Tryz.prog 223 [x,.fn (.func f) [] cs] h λr h'=>r=i64 (Xv rows p)/\h'=h:=by
 refine zl Tryz.f223 [.tmp 4] 19 rfl rfl rfl rfl rfl rfl (by decide) (⟨_,_,⟨rfl,rfl⟩,.refl⟩) λB=>?_
 simp only[go_sem,m.rows]
 refine zO (by decide) (λn T h'=>h'=h/\∃k:Nat,T 0=x/\T 1= .fn (.func f) [] cs/\T 7=i64 rows.length/\T 8=i64 k/\k<=rows.length/\(∀j (e:j<rows.length),j<k->p rows[j]=false)/\n=rows.length - k) rows.length
  ⟨rfl,0,by simp only[go_sem],by simp only[go_sem],by simp only[go_sem],by(simp only[go_sem]<;>rfl),by omega,λ_ _ h=>by omega,rfl⟩ ?_
 rintro n T h' ⟨rfl,k,t0,t1,s,t8,z,h0,rfl⟩
 simp only[go_sem,s,t8]
 refine ways (λo=>?_) (λo=>?_)
 ·have a:k<rows.length:=by simpa using o
  have q:=m.at a
  have b:rows[k]? =some rows[k]:=zh a
  have l:(k:Int)<rows.length:=by omega
  have t:=u rows[k] (zw a)
  obtain⟨a0,c⟩:∃a0,rows[k]=[a0]:=by
   match hr:rows[k],t with
   | [a0],_=>exact⟨_,rfl⟩
  have d:=w rows[k] (zw a) []
  rw[c] at b d
  simp only[zU,List.cons_append,List.nil_append,Kka,nth] at d
  simp only[go_sem,q,m.rows,b,l,t0,t1,s,t8,Int.toNat_natCast,zg]
  refine zi d ?_
  rintro _ C ⟨rfl,v⟩
  subst v
  simp only[go_sem]
  refine ways (λi=>?_) (λi=>?_)
  ·simp only[go_sem,t8]
   rw[<-c] at i
   refine zk ?_<;>(simp only[go_sem,t8,yF a (λj e=>h0 j (by omega) e) i]<;>try rfl)
  ·simp only[go_sem,t8,xS (show k<9223372036854775807 by omega)]
   rw[<-c] at i
   refine⟨rows.length - (k+1),by omega,k+1,t0,t1,s,rfl,by omega,λj e y=>?_,rfl⟩
   rcases Nat.lt_or_ge j k with g|g
   ·exact h0 j e g
   ·have:j=k:=by omega
    subst this
    exact i
 ·have a:k=rows.length:=by
   have:¬ (k:Int)<rows.length:=by simpa using o
   omega
  simp only[go_sem]
  refine zk ?_<;>(simp only[go_sem,yx λj e=>h0 j e (by omega)]<;>try rfl)
theorem c98(h:List Ob)(x:AV)(f:FuncId)(cs:List AV)(rows:List (List AV))(p:List AV->Bool)(c:rows.length<9223372036854775808)(b:∀r∈rows,r.length=1)(e:SlOf h x 1 rows)(d:Zk h f cs Kka rows p):
  ACalls Tryz.prog 210 [x,.fn (.func f) [] cs] h λr h'=>r=bl (rows.any p)/\h'=h:=by
 refine zl Tryz.f210 [.tmp 4] 9 rfl rfl rfl rfl rfl rfl (by decide) (⟨_,_,⟨rfl,rfl⟩,.refl⟩) λB=>?_
 simp only[go_sem]
 refine zi (Yha h x f cs rows p c b e d) ?_
 rintro _ g ⟨rfl,a⟩
 subst a
 simp only[go_sem,wO]
 refine zk ?_<;>(simp only[go_sem,wO]<;>try rfl)
theorem Yia(h:List Ob)(x:AV)(f:FuncId)(cs:List AV)(rows:List (List AV))(p:List AV->Bool)(A:rows.length<9223372036854775808)(u:∀r∈rows,r.length=2)(m:SlOf h x 2 rows)(w:Zk h f cs agA rows p):
  ACalls Tryz.prog 259 [x,.fn (.func f) [] cs] h λr h'=>r=i64 (Xv rows p)/\h'=h:=by
 refine zl Tryz.f259 [.tmp 4] 19 rfl rfl rfl rfl rfl rfl (by decide) (⟨_,_,⟨rfl,rfl⟩,.refl⟩) λB=>?_
 simp only[go_sem,m.rows]
 refine zO (by decide) (λn T h'=>h'=h/\∃k:Nat,T 0=x/\T 1= .fn (.func f) [] cs/\T 7=i64 rows.length/\T 8=i64 k/\k<=rows.length/\(∀j (e:j<rows.length),j<k->p rows[j]=false)/\n=rows.length - k) rows.length
  ⟨rfl,0,by simp only[go_sem],by simp only[go_sem],by simp only[go_sem],by(simp only[go_sem]<;>rfl),by omega,λ_ _ h=>by omega,rfl⟩ ?_
 rintro n T h' ⟨rfl,k,t0,t1,s,t8,z,h0,rfl⟩
 simp only[go_sem,s,t8]
 refine ways (λo=>?_) (λo=>?_)
 ·have a:k<rows.length:=by simpa using o
  have q:=m.at a
  have b:rows[k]? =some rows[k]:=zh a
  have l:(k:Int)<rows.length:=by omega
  have t:=u rows[k] (zw a)
  obtain⟨a0,a1,c⟩:∃a0 a1,rows[k]=[a0,a1]:=by
   match hr:rows[k],t with
   | [a0,a1],_=>exact⟨_,_,rfl⟩
  have d:=w rows[k] (zw a) []
  rw[c] at b d
  simp only[zU,List.cons_append,List.nil_append,agA,nth] at d
  simp only[go_sem,q,m.rows,b,l,t0,t1,s,t8,Int.toNat_natCast,zg]
  refine zi d ?_
  rintro _ C ⟨rfl,v⟩
  subst v
  simp only[go_sem]
  refine ways (λi=>?_) (λi=>?_)
  ·simp only[go_sem,t8]
   rw[<-c] at i
   refine zk ?_<;>(simp only[go_sem,t8,yF a (λj e=>h0 j (by omega) e) i]<;>try rfl)
  ·simp only[go_sem,t8,xS (show k<9223372036854775807 by omega)]
   rw[<-c] at i
   refine⟨rows.length - (k+1),by omega,k+1,t0,t1,s,rfl,by omega,λj e y=>?_,rfl⟩
   rcases Nat.lt_or_ge j k with g|g
   ·exact h0 j e g
   ·have:j=k:=by omega
    subst this
    exact i
 ·have a:k=rows.length:=by
   have:¬ (k:Int)<rows.length:=by simpa using o
   omega
  simp only[go_sem]
  refine zk ?_<;>(simp only[go_sem,yx λj e=>h0 j e (by omega)]<;>try rfl)
theorem Yja(h:List Ob)(x:AV)(f:FuncId)(cs:List AV)(rows:List (List AV))(p:List AV->Bool)(c:rows.length<9223372036854775808)(b:∀r∈rows,r.length=2)(e:SlOf h x 2 rows)(d:Zk h f cs agA rows p):
  ACalls Tryz.prog 213 [x,.fn (.func f) [] cs] h λr h'=>r=bl (rows.any p)/\h'=h:=by
 refine zl Tryz.f213 [.tmp 4] 9 rfl rfl rfl rfl rfl rfl (by decide) (⟨_,_,⟨rfl,rfl⟩,.refl⟩) λB=>?_
 simp only[go_sem]
 refine zi (Yia h x f cs rows p c b e d) ?_
 rintro _ g ⟨rfl,a⟩
 subst a
 simp only[go_sem,wO]
 refine zk ?_<;>(simp only[go_sem,wO]<;>try rfl)
theorem Yka(h:List Ob)(x:AV)(f:FuncId)(cs:List AV)(rows:List (List AV))(p:List AV->Bool)(A:rows.length<9223372036854775808)(u:∀r∈rows,r.length=3)(m:SlOf h x 3 rows)(w:Zk h f cs agA rows p):
  ACalls Tryz.prog 212 [x,.fn (.func f) [] cs] h λr h'=>r=i64 (Xv rows p)/\h'=h:=by
 refine zl Tryz.f212 [.tmp 4] 19 rfl rfl rfl rfl rfl rfl (by decide) (⟨_,_,⟨rfl,rfl⟩,.refl⟩) λB=>?_
 simp only[go_sem,m.rows]
 refine zO (by decide) (λn T h'=>h'=h/\∃k:Nat,T 0=x/\T 1= .fn (.func f) [] cs/\T 7=i64 rows.length/\T 8=i64 k/\k<=rows.length/\(∀j (e:j<rows.length),j<k->p rows[j]=false)/\n=rows.length - k) rows.length
  ⟨rfl,0,by simp only[go_sem],by simp only[go_sem],by simp only[go_sem],by(simp only[go_sem]<;>rfl),by omega,λ_ _ h=>by omega,rfl⟩ ?_
 rintro n T h' ⟨rfl,k,t0,t1,s,t8,z,h0,rfl⟩
 simp only[go_sem,s,t8]
 refine ways (λo=>?_) (λo=>?_)
 ·have a:k<rows.length:=by simpa using o
  have q:=m.at a
  have b:rows[k]? =some rows[k]:=zh a
  have l:(k:Int)<rows.length:=by omega
  have t:=u rows[k] (zw a)
  obtain⟨a0,a1,a2,c⟩:∃a0 a1 a2,rows[k]=[a0,a1,a2]:=by
   match hr:rows[k],t with
   | [a0,a1,a2],_=>exact⟨_,_,_,rfl⟩
  have d:=w rows[k] (zw a) []
  rw[c] at b d
  simp only[zU,List.cons_append,List.nil_append,agA,nth] at d
  simp only[go_sem,q,m.rows,b,l,t0,t1,s,t8,Int.toNat_natCast,zg]
  refine zi d ?_
  rintro _ C ⟨rfl,v⟩
  subst v
  simp only[go_sem]
  refine ways (λi=>?_) (λi=>?_)
  ·simp only[go_sem,t8]
   rw[<-c] at i
   refine zk ?_<;>(simp only[go_sem,t8,yF a (λj e=>h0 j (by omega) e) i]<;>try rfl)
  ·simp only[go_sem,t8,xS (show k<9223372036854775807 by omega)]
   rw[<-c] at i
   refine⟨rows.length - (k+1),by omega,k+1,t0,t1,s,rfl,by omega,λj e y=>?_,rfl⟩
   rcases Nat.lt_or_ge j k with g|g
   ·exact h0 j e g
   ·have:j=k:=by omega
    subst this
    exact i
 ·have a:k=rows.length:=by
   have:¬ (k:Int)<rows.length:=by simpa using o
   omega
  simp only[go_sem]
  refine zk ?_<;>(simp only[go_sem,yx λj e=>h0 j e (by omega)]<;>try rfl)
theorem c78(h:List Ob)(x:AV)(f:FuncId)(cs:List AV)(rows:List (List AV))(p:List AV->Bool)(c:rows.length<9223372036854775808)(b:∀r∈rows,r.length=3)(e:SlOf h x 3 rows)(d:Zk h f cs agA rows p):
  ACalls Tryz.prog 143 [x,.fn (.func f) [] cs] h λr h'=>r=bl (rows.any p)/\h'=h:=by
 refine zl Tryz.f143 [.tmp 4] 9 rfl rfl rfl rfl rfl rfl (by decide) (⟨_,_,⟨rfl,rfl⟩,.refl⟩) λB=>?_
 simp only[go_sem]
 refine zi (Yka h x f cs rows p c b e d) ?_
 rintro _ g ⟨rfl,a⟩
 subst a
 simp only[go_sem,wO]
 refine zk ?_<;>(simp only[go_sem,wO]<;>try rfl)
theorem Yla(h:List Ob)(x:AV)(f:FuncId)(cs:List AV)(rows:List (List AV))(p:List AV->Bool)(A:rows.length<9223372036854775808)(u:∀r∈rows,r.length=4)(m:SlOf h x 4 rows)(w:Zk h f cs agA rows p):
  ACalls Tryz.prog 215 [x,.fn (.func f) [] cs] h λr h'=>r=i64 (Xv rows p)/\h'=h:=by
 refine zl Tryz.f215 [.tmp 4] 19 rfl rfl rfl rfl rfl rfl (by decide) (⟨_,_,⟨rfl,rfl⟩,.refl⟩) λB=>?_
 simp only[go_sem,m.rows]
 refine zO (by decide) (λn T h'=>h'=h/\∃k:Nat,T 0=x/\T 1= .fn (.func f) [] cs/\T 7=i64 rows.length/\T 8=i64 k/\k<=rows.length/\(∀j (e:j<rows.length),j<k->p rows[j]=false)/\n=rows.length - k) rows.length
  ⟨rfl,0,by simp only[go_sem],by simp only[go_sem],by simp only[go_sem],by(simp only[go_sem]<;>rfl),by omega,λ_ _ h=>by omega,rfl⟩ ?_
 rintro n T h' ⟨rfl,k,t0,t1,s,t8,z,h0,rfl⟩
 simp only[go_sem,s,t8]
 refine ways (λo=>?_) (λo=>?_)
 ·have a:k<rows.length:=by simpa using o
  have q:=m.at a
  have b:rows[k]? =some rows[k]:=zh a
  have l:(k:Int)<rows.length:=by omega
  have t:=u rows[k] (zw a)
  obtain⟨a0,a1,a2,a3,c⟩:∃a0 a1 a2 a3,rows[k]=[a0,a1,a2,a3]:=by
   match hr:rows[k],t with
   | [a0,a1,a2,a3],_=>exact⟨_,_,_,_,rfl⟩
  have d:=w rows[k] (zw a) []
  rw[c] at b d
  simp only[zU,List.cons_append,List.nil_append,agA,nth] at d
  simp only[go_sem,q,m.rows,b,l,t0,t1,s,t8,Int.toNat_natCast,zg]
  refine zi d ?_
  rintro _ C ⟨rfl,v⟩
  subst v
  simp only[go_sem]
  refine ways (λi=>?_) (λi=>?_)
  ·simp only[go_sem,t8]
   rw[<-c] at i
   refine zk ?_<;>(simp only[go_sem,t8,yF a (λj e=>h0 j (by omega) e) i]<;>try rfl)
  ·simp only[go_sem,t8,xS (show k<9223372036854775807 by omega)]
   rw[<-c] at i
   refine⟨rows.length - (k+1),by omega,k+1,t0,t1,s,rfl,by omega,λj e y=>?_,rfl⟩
   rcases Nat.lt_or_ge j k with g|g
   ·exact h0 j e g
   ·have:j=k:=by omega
    subst this
    exact i
 ·have a:k=rows.length:=by
   have:¬ (k:Int)<rows.length:=by simpa using o
   omega
  simp only[go_sem]
  refine zk ?_<;>(simp only[go_sem,yx λj e=>h0 j e (by omega)]<;>try rfl)
theorem c81(h:List Ob)(x:AV)(f:FuncId)(cs:List AV)(rows:List (List AV))(p:List AV->Bool)(c:rows.length<9223372036854775808)(b:∀r∈rows,r.length=4)(e:SlOf h x 4 rows)(d:Zk h f cs agA rows p):
  ACalls Tryz.prog 146 [x,.fn (.func f) [] cs] h λr h'=>r=bl (rows.any p)/\h'=h:=by
 refine zl Tryz.f146 [.tmp 4] 9 rfl rfl rfl rfl rfl rfl (by decide) (⟨_,_,⟨rfl,rfl⟩,.refl⟩) λB=>?_
 simp only[go_sem]
 refine zi (Yla h x f cs rows p c b e d) ?_
 rintro _ g ⟨rfl,a⟩
 subst a
 simp only[go_sem,wO]
 refine zk ?_<;>(simp only[go_sem,wO]<;>try rfl)
theorem c42(h:List Ob)(x:AV)(f:FuncId)(cs:List AV)(rows:List (List AV))(p:List AV->Bool)(F:rows.length<9223372036854775808)(z:∀r∈rows,r.length=11)(q:SlOf h x 11 rows)(C:Zk h f cs agA rows p):
  ACalls Tryz.prog 61 [x,.fn (.func f) [] cs] h λr h'=>r=i64 (Xv rows p)/\h'=h:=by
 refine zl Tryz.f61 [.tmp 4] 19 rfl rfl rfl rfl rfl rfl (by decide) (⟨_,_,⟨rfl,rfl⟩,.refl⟩) λB=>?_
 simp only[go_sem,q.rows]
 refine zO (by decide) (λn T h'=>h'=h/\∃k:Nat,T 0=x/\T 1= .fn (.func f) [] cs/\T 7=i64 rows.length/\T 8=i64 k/\k<=rows.length/\(∀j (g:j<rows.length),j<k->p rows[j]=false)/\n=rows.length - k) rows.length
  ⟨rfl,0,by simp only[go_sem],by simp only[go_sem],by simp only[go_sem],by(simp only[go_sem]<;>rfl),by omega,λ_ _ h=>by omega,rfl⟩ ?_
 rintro n T h' ⟨rfl,k,t0,t1,w,t8,E,h0,rfl⟩
 simp only[go_sem,w,t8]
 refine ways (λs=>?_) (λs=>?_)
 ·have a:k<rows.length:=by simpa using s
  have v:=q.at a
  have b:rows[k]? =some rows[k]:=zh a
  have o:(k:Int)<rows.length:=by omega
  have y:=z rows[k] (zw a)
  obtain⟨a0,a1,a2,a3,a4,a5,t,m,u,a9,e,c⟩:∃a0 a1 a2 a3 a4 a5 t m u a9 e,rows[k]=[a0,a1,a2,a3,a4,a5,t,m,u,a9,e]:=by
   match hr:rows[k],y with
   | [a0,a1,a2,a3,a4,a5,t,m,u,a9,e],_=>exact⟨_,_,_,_,_,_,_,_,_,_,_,rfl⟩
  have d:=C rows[k] (zw a) []
  rw[c] at b d
  simp only[zU,List.cons_append,List.nil_append,agA,nth] at d
  simp only[go_sem,v,q.rows,b,o,t0,t1,w,t8,Int.toNat_natCast,zg]
  refine zi d ?_
  rintro _ G ⟨rfl,A⟩
  subst A
  simp only[go_sem]
  refine ways (λl=>?_) (λl=>?_)
  ·simp only[go_sem,t8]
   rw[<-c] at l
   refine zk ?_<;>(simp only[go_sem,t8,yF a (λj g=>h0 j (by omega) g) l]<;>try rfl)
  ·simp only[go_sem,t8,xS (show k<9223372036854775807 by omega)]
   rw[<-c] at l
   refine⟨rows.length - (k+1),by omega,k+1,t0,t1,w,rfl,by omega,λj g D=>?_,rfl⟩
   rcases Nat.lt_or_ge j k with i|i
   ·exact h0 j g i
   ·have:j=k:=by omega
    subst this
    exact l
 ·have a:k=rows.length:=by
   have:¬ (k:Int)<rows.length:=by simpa using s
   omega
  simp only[go_sem]
  refine zk ?_<;>(simp only[go_sem,yx λj g=>h0 j g (by omega)]<;>try rfl)
