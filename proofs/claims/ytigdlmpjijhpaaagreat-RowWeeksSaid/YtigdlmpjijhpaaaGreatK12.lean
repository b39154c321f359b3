/-
  Joined.
-/
import Derived.Test.YtigdlmpjijhpaaaGreatK11
import Derived.Test.YtigdlmpjijhpaaaGreatK10
import Derived.IntWalk
set_option linter.unusedSimpArgs false
set_option linter.unusedVariables false
namespace Go.Proofs.YtigdlmpjijhpaaaGreat.Ax
open Go Go.Proofs
set_option maxRecDepth 100000
attribute [go_sem] ty3 ty4 v4a y2a y3a
abbrev i64 (n:Int):AV:= .v (.int .i64 n)
abbrev bl (b:Bool):AV:= .v (.bool b)
abbrev yKa (n d:Int):AV:= .ag [i64 n,i64 d]
abbrev wr (n:Int):Int:=IntKind.wrap .i64 n
theorem c52:jf Tryz.prog 202 [] (yKa 0 1):=λh=>by
 refine zf Tryz.f202 [.cell 0 24] 2 rfl rfl rfl rfl rfl rfl (by decide) (⟨_,_,⟨rfl,rfl⟩,.refl⟩) λB=>?_
 simp only[go_sem]
 (first | refine zc ?_ | refine ze ?_ (by rfl))<;>(simp only[go_sem]<;>try rfl)
def yM (n:Int):Int:=if n= -9223372036854775808 then 4611686018427387904 else if n<0 then wr (0 - n) else n
theorem c84 (n:Int):jf Tryz.prog 258 [i64 n] (i64 (yM n)):=λh=>by
 refine zf Tryz.f258 [.tmp 2] 12 rfl rfl rfl rfl rfl rfl (by decide) (⟨_,_,⟨rfl,rfl⟩,.refl⟩) λB=>?_
 simp only[go_sem]
 refine ways (λe=>?_) (λe=>?_)
 ·simp only[beq_iff_eq] at e
  (first | refine zc ?_ | refine ze ?_ (by rfl))<;>(simp only[go_sem,yM,e]<;>try rfl)
 ·simp only[beq_eq_false_iff_ne,ne_eq] at e
  simp only[go_sem]
  refine ways (λa=>?_) (λa=>?_)
  ·simp only[decide_eq_true_eq] at a
   simp only[go_sem]
   (first | refine zc ?_ | refine ze ?_ (by rfl))<;>(simp only[go_sem,yM,e,a]<;>try rfl)
  ·simp only[decide_eq_false_iff_not] at a
   simp only[go_sem]
   (first | refine zc ?_ | refine ze ?_ (by rfl))<;>(simp only[go_sem,yM,e,a]<;>try rfl)
def Fit (n:Int):Prop:= -9223372036854775808<=n/\n<=9223372036854775807
theorem zF {n:Int} (h:Fit n):wr n=n:=Go.IntWalk.i64_in n h
theorem qEa {n:Int} (h:Fit n):0<=yM n:=by
 unfold yM
 split
 ·omega
 ·split
  ·rw[zF (by unfold Fit at *; omega)];omega
  ·omega
def JO (a b:Int):Int:=(Nat.gcd (yM a).toNat (yM b).toNat:Int)
theorem c53 (a b:Int) (i:Fit a) (g:Fit b):jf Tryz.prog 204 [i64 a,i64 b] (i64 (JO a b)):=λh=>by
 refine zf Tryz.f204 [.tmp 4] 16 rfl rfl rfl rfl rfl rfl (by decide) (⟨_,_,⟨rfl,rfl⟩,.refl⟩) λB=>?_
 simp only[go_sem]
 refine zd (c84 a h) ?_
 rintro _ _ ⟨rfl,rfl⟩
 simp only[go_sem]
 refine zd (c84 b _) ?_
 rintro _ _ ⟨rfl,rfl⟩
 simp only[go_sem]
 rename_i h
 refine zk (by decide) (λn T h'=>h'=h/\∃x y:Nat,T 0=i64 x/\T 1=i64 y/\Nat.gcd x y=Nat.gcd (yM a).toNat (yM b).toNat/\y=n) _ ⟨rfl,(yM a).toNat,(yM b).toNat,?_,?_,rfl,rfl⟩ ?_
 ·simp only[go_sem,Int.toNat_of_nonneg (qEa i)]
 ·simp only[go_sem,Int.toNat_of_nonneg (qEa g)]
 rintro n T h ⟨rfl,x,y,h0,f,c,rfl⟩
 simp only[go_sem,h0,f]
 refine ways (λe=>?_) (λe=>?_)
 ·simp only[go_sem]
  have hyp:0<y:=by simpa using e
  have d:¬ (y:Int)=0:=by omega
  refine zp rfl [] 0 [(0,0,[]),(1,0,[]),(2,0,[]),(3,0,[]),(4,0,[]),(5,0,[])] rfl (by decide) (by decide) ?_
  simp only[go_sem,h0,f,d]
  refine ⟨x % y,Nat.mod_lt _ hyp,y,x % y,rfl,by rw[Int.ofNat_tmod],?_,rfl⟩
  rw[<-c,Nat.gcd_comm y, <-Nat.gcd_rec,Nat.gcd_comm]
 ·simp only[go_sem]
  have d:y=0:=by simpa using e
  subst d
  rw[Nat.gcd_zero_right] at c
  simp only[go_sem,h0]
  (first | refine zc ?_ | refine ze ?_ (by rfl))<;>(simp only[go_sem,JO,h0,c]<;>try rfl)
theorem kGa {a b:Int} (c:Fit b) (h:0<b):0<JO a b:=by
 have:yM b=b:=by
  unfold yM
  split
  ·omega
  ·split<;>omega
 unfold JO
 rw[this]
 have:=Nat.gcd_pos_of_pos_right (yM a).toNat (show 0<b.toNat by omega)
 omega
abbrev zy:=Int × Int
abbrev rat (p:zy):AV:=yKa p.1 p.2
def make (n d:Int):zy × Int:=
 if d<=0 then ((0,0),20) else if n=0 then ((0,1),0) else
  if wr (n.tdiv (JO n d))>2147483647∨wr (n.tdiv (JO n d))< -2147483647∨wr (d.tdiv (JO n d))>2147483647 then ((0,0),10) else ((wr (n.tdiv (JO n d)),wr (d.tdiv (JO n d))),0)
abbrev Qp (p:zy × Int):AV:= .tup [rat p.1,i64 p.2]
theorem c18 (n d:Int) (k:Fit n) (i:Fit d):jf Tryz.prog 129 [i64 n,i64 d] (Qp (make n d)):=λh=>by
 refine zf Tryz.f129 [.cell 4 24,.tmp 5] 36 rfl rfl rfl rfl rfl rfl (by decide) (⟨_,_,⟨rfl,rfl⟩,.refl⟩) λB=>?_
 simp only[go_sem]
 refine ways (λe=>?_) (λe=>?_)
 ·simp only[decide_eq_true_eq] at e
  simp only[go_sem]
  (first | refine zc ?_ | refine ze ?_ (by rfl))<;>(simp only[go_sem,make,e]<;>try rfl)
 simp only[decide_eq_false_iff_not] at e
 simp only[go_sem]
 refine ways (λf=>?_) (λf=>?_)
 ·simp only[beq_iff_eq] at f
  simp only[go_sem]
  refine zd (c52 _) ?_
  rintro _ _ ⟨rfl,rfl⟩
  simp only[go_sem]
  (first | refine zc ?_ | refine ze ?_ (by rfl))<;>(simp only[go_sem,make,e,f]<;>try rfl)
 simp only[beq_eq_false_iff_ne,ne_eq] at f
 simp only[go_sem]
 refine zd (c53 n d k i _) ?_
 rintro _ _ ⟨rfl,rfl⟩
 simp only[go_sem]
 refine zp rfl [] 0 [(0,0,[]),(1,0,[]),(2,0,[]),(3,0,[]),(4,0,[]),(5,0,[]),(6,0,[]),(7,0,[])] rfl (by decide) (by decide) ?_
 have j:¬ JO n d=0:=by have:=kGa (a:=n) i (by omega);omega
 simp only[go_sem,j]
 refine ways (λb=>?_) (λb=>?_)
 ·have b:=jM b
  simp only[go_sem,b]
  refine ways (λc=>?_) (λc=>?_)
  ·have c:=jM c
   simp only[go_sem,c]
   refine ways (λg=>?_) (λg=>?_)
   ·simp only[go_sem]
    simp only[decide_eq_true_eq,decide_eq_false_iff_not] at b c g
    (first | refine zc ?_ | refine ze ?_ (by rfl))<;>(simp only[go_sem,make,e,f,b,c,g,or_true]<;>try rfl)
   ·simp only[go_sem]
    simp only[decide_eq_true_eq,decide_eq_false_iff_not] at b c g
    (first | refine zc ?_ | refine ze ?_ (by rfl))<;>(simp only[go_sem,make,e,f,b,c,g,or_self]<;>try rfl)
  ·have c:=jL c
   simp only[go_sem,c]
   simp only[decide_eq_true_eq,decide_eq_false_iff_not] at b c
   (first | refine zc ?_ | refine ze ?_ (by rfl))<;>(simp only[go_sem,make,e,f,b,c,true_or,or_true]<;>try rfl)
 ·have b:=jL b
  simp only[go_sem,b]
  simp only[decide_eq_true_eq] at b
  (first | refine zc ?_ | refine ze ?_ (by rfl))<;>(simp only[go_sem,make,e,f,b,true_or]<;>try rfl)
def rok (p:zy):Bool:=(make p.1 p.2).2==0 && ((make p.1 p.2).1.1==p.1 && (make p.1 p.2).1.2==p.2)
theorem c27 (p:zy) (a:Fit p.1) (b:Fit p.2):jf Tryz.prog 133 [rat p] (bl (rok p)):=λh=>by
 refine zf Tryz.f133 [.tmp 2] 20 rfl rfl rfl rfl rfl rfl (by decide) (⟨_,_,⟨rfl,rfl⟩,.refl⟩) λB=>?_
 simp only[go_sem]
 refine zd (c18 p.1 p.2 a b _) ?_
 rintro _ _ ⟨rfl,rfl⟩
 simp only[go_sem]
 refine ways (λe=>?_) (λe=>?_)
 ·have e:=jc e
  simp only[go_sem,e]
  (first | refine zc ?_ | refine ze ?_ (by rfl))<;>(simp only[go_sem,rok,e]<;>try rfl)
 ·have e:=jb e
  simp only[go_sem,e]
  (first | refine zc ?_ | refine ze ?_ (by rfl))<;>(simp only[go_sem,rok,e]<;>try rfl)
theorem xC (n:Int):Fit (wr n):=by
 unfold Fit wr
 rw[IntKind.wrap_i64]
 omega
def qa (p:zy):Prop:=Fit p.1/\Fit p.2
def Two (f:FuncId) (v:zy->zy->Int × Int):Prop:=∀(h:List Ob) (i j:Nat) (a b:zy),h[i]? =some (.box 24 [i64 a.1,i64 a.2])->h[j]? =some (.box 24 [i64 b.1,i64 b.2])->
 ACalls Tryz.prog f [.ptr i 0,.ptr j 0] h λr h'=>r= .tup [i64 (v a b).1,i64 (v a b).2]/\h'=h
theorem c55:Two 206 λa b=>(wr (wr (a.1*b.2) - wr (b.1*a.2)),wr (a.2*b.2)):=λh i j a b c d=>by
 refine zf Tryz.f206 [.tmp 2,.tmp 3] 20 rfl rfl rfl rfl rfl rfl (by decide) (⟨_,_,⟨rfl,rfl⟩,.refl⟩) λB=>?_
 simp only[go_sem]
 refine zp rfl [] 0 [(0,0,[]),(2,0,[]),(5,0,[]),(7,0,[]),(11,0,[]),(13,0,[]),(1,0,[]),(3,0,[]),(4,0,[]),(6,0,[]),(8,0,[]),(9,0,[]),(10,0,[]),(16,0,[]),(12,0,[]),(14,0,[]),(15,0,[]),(17,0,[])] rfl (by decide) (by decide) ?_
 simp only[go_sem,c,d]
 (first | refine zc ?_ | refine ze ?_ (by rfl))<;>(simp only[go_sem]<;>try rfl)
theorem c92:Two 257 λa b=>(wr (wr (a.1*b.2)+wr (b.1*a.2)),wr (a.2*b.2)):=λh i j a b c d=>by
 refine zf Tryz.f257 [.tmp 2,.tmp 3] 20 rfl rfl rfl rfl rfl rfl (by decide) (⟨_,_,⟨rfl,rfl⟩,.refl⟩) λB=>?_
 simp only[go_sem]
 refine zp rfl [] 0 [(0,0,[]),(2,0,[]),(5,0,[]),(7,0,[]),(11,0,[]),(13,0,[]),(1,0,[]),(3,0,[]),(4,0,[]),(6,0,[]),(8,0,[]),(9,0,[]),(10,0,[]),(16,0,[]),(12,0,[]),(14,0,[]),(15,0,[]),(17,0,[])] rfl (by decide) (by decide) ?_
 simp only[go_sem,c,d]
 (first | refine zc ?_ | refine ze ?_ (by rfl))<;>(simp only[go_sem]<;>try rfl)
theorem c64:Two 256 λa b=>(wr (a.1*b.1),wr (a.2*b.2)):=λh i j a b c d=>by
 refine zf Tryz.f256 [.tmp 2,.tmp 3] 14 rfl rfl rfl rfl rfl rfl (by decide) (⟨_,_,⟨rfl,rfl⟩,.refl⟩) λB=>?_
 simp only[go_sem]
 refine zp rfl [] 0 [(0,0,[]),(2,0,[]),(5,0,[]),(7,0,[]),(1,0,[]),(3,0,[]),(4,0,[]),(10,0,[]),(6,0,[]),(8,0,[]),(9,0,[]),(11,0,[])] rfl (by decide) (by decide) ?_
 simp only[go_sem,c,d]
 (first | refine zc ?_ | refine ze ?_ (by rfl))<;>(simp only[go_sem]<;>try rfl)
theorem c75:Two 207 λa b=>(wr (a.1*b.2),wr (a.2*b.1)):=λh i j a b c d=>by
 refine zf Tryz.f207 [.tmp 2,.tmp 3] 14 rfl rfl rfl rfl rfl rfl (by decide) (⟨_,_,⟨rfl,rfl⟩,.refl⟩) λB=>?_
 simp only[go_sem]
 refine zp rfl [] 0 [(0,0,[]),(2,0,[]),(5,0,[]),(7,0,[]),(1,0,[]),(3,0,[]),(4,0,[]),(10,0,[]),(6,0,[]),(8,0,[]),(9,0,[]),(11,0,[])] rfl (by decide) (by decide) ?_
 simp only[go_sem,c,d]
 (first | refine zc ?_ | refine ze ?_ (by rfl))<;>(simp only[go_sem]<;>try rfl)
def vZ (v:zy->zy->Int × Int) (a b:zy):zy × Int:=if (rok a && rok b)=true then make (v a b).1 (v a b).2 else ((0,0),20)
theorem c54 (h:List Ob) (a b:zy) (j:qa a) (g:qa b) (f:FuncId) (i:List AV) (n d:Int) (m:Fit n) (k:Fit d) (l:∀L,ACalls Tryz.prog f i (h++L) λr h'=>r= .tup [i64 n,i64 d]/\h'=h++L):
  ACalls Tryz.prog 205 [rat a,rat b,.fn (.func f) [] i] h λr h'=>r=Qp (if (rok a && rok b)=true then make n d else ((0,0),20))/\h'=h:=by
 refine zf Tryz.f205 [.cell 6 24,.tmp 7] 24 rfl rfl rfl rfl rfl rfl (by decide) (⟨_,_,⟨rfl,rfl⟩,.refl⟩) λB=>?_
 simp only[go_sem]
 refine zd (c27 a j.1 j.2 _) ?_
 rintro _ _ ⟨rfl,rfl⟩
 simp only[go_sem]
 refine ways (λe=>?_) (λe=>?_)
 ·have e:=jM e
  simp only[Bool.not_eq_false'] at e
  simp only[go_sem,e]
  refine zd (c27 b g.1 g.2 _) ?_
  rintro _ _ ⟨rfl,rfl⟩
  simp only[go_sem,e]
  refine ways (λc=>?_) (λc=>?_)
  ·simp only[Bool.not_eq_true'] at c
   simp only[go_sem,e,c]
   (first | refine zc ?_ | refine ze ?_ (by rfl))<;>(simp only[go_sem,e,c]<;>try rfl)
  ·simp only[Bool.not_eq_false'] at c
   simp only[go_sem,e,c]
   refine zd (l _) ?_
   rintro _ _ ⟨rfl,rfl⟩
   simp only[go_sem]
   refine zd (c18 n d m k _) ?_
   rintro _ _ ⟨rfl,rfl⟩
   simp only[go_sem]
   (first | refine zc ?_ | refine ze ?_ (by rfl))<;>(simp only[go_sem,e,c]<;>try rfl)
 ·have e:=jL e
  simp only[Bool.not_eq_true'] at e
  simp only[go_sem,e]
  (first | refine zc ?_ | refine ze ?_ (by rfl))<;>(simp only[go_sem,e]<;>try rfl)
theorem wta {f:FuncId} {v:zy->zy->Int × Int} (g:Two f v) (c:∀a b,Fit (v a b).1/\Fit (v a b).2) {h:List Ob} (a b:zy) (l:qa a) (e:qa b) (i j:Nat) (k:h[i]? =some (.box 24 [i64 a.1,i64 a.2])) (d:h[j]? =some (.box 24 [i64 b.1,i64 b.2])):
  ACalls Tryz.prog 205 [rat a,rat b,.fn (.func f) [] [.ptr i 0,.ptr j 0]] h λr h'=>r=Qp (vZ v a b)/\h'=h:=
 c54 h a b l e f _ _ _ (c a b).1 (c a b).2 λL=>g _ i j a b (zb k) (zb d)
abbrev wua (a b:zy):Int × Int:=(wr (wr (a.1*b.2) - wr (b.1*a.2)),wr (a.2*b.2))
abbrev jRa (a b:zy):Int × Int:=(wr (wr (a.1*b.2)+wr (b.1*a.2)),wr (a.2*b.2))
abbrev wva (a b:zy):Int × Int:=(wr (a.1*b.1),wr (a.2*b.2))
abbrev kHa (a b:zy):Int × Int:=(wr (a.1*b.2),wr (a.2*b.1))
theorem c19 (a b:zy) (c:qa a) (d:qa b):jf Tryz.prog 131 [rat a,rat b] (Qp (vZ wua a b)):=λh=>by
 refine zf Tryz.f131 [.cell 4 24,.tmp 5] 12 rfl rfl rfl rfl rfl rfl (by decide) (⟨_,_,⟨rfl,rfl⟩,.refl⟩) λB=>?_
 simp only[go_sem]
 refine zd (wta (v:=wua) c55 (λ_ _=>⟨xC _,xC _⟩) a b c d _ _ (by simp only[go_sem]) (by simp only[go_sem])) ?_
 rintro _ _ ⟨rfl,rfl⟩
 simp only[go_sem]
 (first | refine zc ?_ | refine ze ?_ (by rfl))<;>(simp only[go_sem]<;>try rfl)
theorem c63 (a b:zy) (c:qa a) (d:qa b):jf Tryz.prog 203 [rat a,rat b] (Qp (vZ jRa a b)):=λh=>by
 refine zf Tryz.f203 [.cell 4 24,.tmp 5] 12 rfl rfl rfl rfl rfl rfl (by decide) (⟨_,_,⟨rfl,rfl⟩,.refl⟩) λB=>?_
 simp only[go_sem]
 refine zd (wta (v:=jRa) c92 (λ_ _=>⟨xC _,xC _⟩) a b c d _ _ (by simp only[go_sem]) (by simp only[go_sem])) ?_
 rintro _ _ ⟨rfl,rfl⟩
 simp only[go_sem]
 (first | refine zc ?_ | refine ze ?_ (by rfl))<;>(simp only[go_sem]<;>try rfl)
theorem c24 (a b:zy) (c:qa a) (d:qa b):jf Tryz.prog 201 [rat a,rat b] (Qp (vZ wva a b)):=λh=>by
 refine zf Tryz.f201 [.cell 4 24,.tmp 5] 12 rfl rfl rfl rfl rfl rfl (by decide) (⟨_,_,⟨rfl,rfl⟩,.refl⟩) λB=>?_
 simp only[go_sem]
 refine zd (wta (v:=wva) c64 (λ_ _=>⟨xC _,xC _⟩) a b c d _ _ (by simp only[go_sem]) (by simp only[go_sem])) ?_
 rintro _ _ ⟨rfl,rfl⟩
 simp only[go_sem]
 (first | refine zc ?_ | refine ze ?_ (by rfl))<;>(simp only[go_sem]<;>try rfl)
theorem c46 (a b:zy) (c:qa a) (d:qa b):jf Tryz.prog 132 [rat a,rat b] (Qp (vZ kHa a b)):=λh=>by
 refine zf Tryz.f132 [.cell 4 24,.tmp 5] 12 rfl rfl rfl rfl rfl rfl (by decide) (⟨_,_,⟨rfl,rfl⟩,.refl⟩) λB=>?_
 simp only[go_sem]
 refine zd (wta (v:=kHa) c75 (λ_ _=>⟨xC _,xC _⟩) a b c d _ _ (by simp only[go_sem]) (by simp only[go_sem])) ?_
 rintro _ _ ⟨rfl,rfl⟩
 simp only[go_sem]
 (first | refine zc ?_ | refine ze ?_ (by rfl))<;>(simp only[go_sem]<;>try rfl)
def Xy (a b:zy):Bool:=rok a && rok b && decide (wr (a.1*b.2)<wr (b.1*a.2))
theorem c20 (a b:zy) (d:qa a) (f:qa b):jf Tryz.prog 134 [rat a,rat b] (bl (Xy a b)):=λh=>by
 refine zf Tryz.f134 [.tmp 4] 24 rfl rfl rfl rfl rfl rfl (by decide) (⟨_,_,⟨rfl,rfl⟩,.refl⟩) λB=>?_
 simp only[go_sem]
 refine zd (c27 a d.1 d.2 _) ?_
 rintro _ _ ⟨rfl,rfl⟩
 simp only[go_sem]
 refine ways (λe=>?_) (λe=>?_)
 ·have e:=jc e
  simp only[go_sem,e]
  refine zd (c27 b f.1 f.2 _) ?_
  rintro _ _ ⟨rfl,rfl⟩
  simp only[go_sem,e]
  refine ways (λc=>?_) (λc=>?_)
  ·have c:=jc c
   simp only[go_sem,e,c]
   (first | refine zc ?_ | refine ze ?_ (by rfl))<;>(simp only[go_sem,Xy,e,c]<;>try rfl)
  ·have c:=jb c
   simp only[go_sem,e,c]
   (first | refine zc ?_ | refine ze ?_ (by rfl))<;>(simp only[go_sem,Xy,e,c]<;>try rfl)
 ·have e:=jb e
  simp only[go_sem,e]
  (first | refine zc ?_ | refine ze ?_ (by rfl))<;>(simp only[go_sem,Xy,e]<;>try rfl)
set_option maxRecDepth 100000
attribute [go_sem] xPa
theorem jv {k:Nat} (h:k<9223372036854775807):wr ((k:Int)+1)=((k+1:Nat):Int):=by rw[zF (by unfold Fit;omega)];rfl
def qz (p:zy):List AV:=[i64 p.1,i64 p.2]
theorem wF (n d:Int):qa (make n d).1:=by
 unfold make qa
 split
 ·exact ⟨⟨by decide,by decide⟩,⟨by decide,by decide⟩⟩
 ·split
  ·exact ⟨⟨by decide,by decide⟩,⟨by decide,by decide⟩⟩
  ·split
   ·exact ⟨⟨by decide,by decide⟩,⟨by decide,by decide⟩⟩
   ·exact ⟨xC _,xC _⟩
theorem Qq (v:zy->zy->Int × Int) (a b:zy):qa (vZ v a b).1:=by
 unfold vZ
 split
 ·exact wF _ _
 ·exact ⟨⟨by decide,by decide⟩,⟨by decide,by decide⟩⟩
def Kz:zy->List zy->zy × Int
 | out,[]=>(out,0)
 | out,r::l=>if (vZ jRa out r).2≠0 then ((0,0),(vZ jRa out r).2) else Kz (vZ jRa out r).1 l
def vJ (l:List zy):zy × Int:=if l.all rok then Kz (0,1) l else ((0,0),20)
theorem c23 (h:List Ob) (x:AV) (l:List zy) (y:∀p∈l,qa p) (C:l.length<1099511627776) (v:SlOf h x 2 (l.map qz)):
  ACalls Tryz.prog 128 [x] h λr h'=>r=Qp (vJ l)/\h'=h:=by
 refine zf Tryz.f128 [.cell 2 24,.tmp 3] 38 rfl rfl rfl rfl rfl rfl (by decide) (⟨_,_,⟨rfl,rfl⟩,.refl⟩) λB=>?_
 simp only[go_sem]
 refine zd (c52 _) ?_
 rintro _ D ⟨rfl,f⟩
 subst f
 have F:∀L,zo (h++L) x=some (l.map qz):=λL=>(v.app L).rows
 simp only[go_sem,F,List.length_map]
 refine zk (by decide) (λn T h'=>∃(k:Nat) (L:List Ob),h'=h++(Ob.box 24 [i64 0,i64 1]::L)/\T 0=x/\T 2= .ptr h.length 0/\T 9=x/\T 10=i64 l.length/\T 11=i64 k/\k<=l.length/\(l.take k).all rok=true/\n=l.length - k) l.length
  ⟨0,[],rfl,by simp only[go_sem],by simp only[go_sem],by simp only[go_sem],by simp only[go_sem],by (simp only[go_sem]<;>rfl),by omega,rfl,rfl⟩ ?_
 rintro n T h' ⟨k,L,e,t0,t2,t9,t10,g,E,b,rfl⟩
 have q:SlOf h' x 2 (l.map qz):=by subst e;exact v.app _
 simp only[go_sem,t9,t10,g]
 refine ways (λf=>?_) (λf=>?_)
 ·have a:k<l.length:=by simpa using f
  have z:=q.at (i:=k) (by simpa using a)
  have A:(l.map qz)[k]? =some (qz l[k]):=by simp[a]
  have m:(k:Int)<l.length:=by omega
  simp only[go_sem,z,q.rows,A,m,t9,t10,g,Int.toNat_natCast,Int.natCast_nonneg,List.length_map,qz]
  refine zd (c27 l[k] (y _ (List.getElem_mem a)).1 (y _ (List.getElem_mem a)).2 _) ?_
  rintro _ D ⟨rfl,w⟩
  subst w
  simp only[go_sem]
  refine ways (λd=>?_) (λd=>?_)
  ·simp only[Bool.not_eq_true'] at d
   have t:∀M,(h'++M)[h.length]? =some (Ob.box 24 [i64 0,i64 1]):=λM=>by subst e;simp only[go_sem]
   simp only[go_sem,t2,t]
   subst e
   simp only[go_sem]
   have C:l.all rok=false:=by
    rw[List.all_eq_false]
    exact ⟨l[k],List.getElem_mem a,by simp[d]⟩
   (first | refine zc ?_ | refine ze ?_ (by rfl))<;>(simp only[go_sem,t2,vJ,C]<;>try rfl)
  ·simp only[Bool.not_eq_false'] at d
   simp only[go_sem,g,jv (show k<9223372036854775807 by omega)]
   refine ⟨l.length - (k+1),by omega,k+1,L++[Ob.box 24 [i64 l[k].1,i64 l[k].2]],by rw[e];simp,t0,t2,t9,t10,rfl,by omega,?_,rfl⟩
   rw[List.take_add_one,List.getElem?_eq_getElem a,List.all_append,b]
   simp only[Option.toList_some,List.all_cons,List.all_nil,d,Bool.and_self]
 ·have a:k=l.length:=by
   have:¬ (k:Int)<l.length:=by simpa using f
   omega
  have c:l.all rok=true:=by rw[a,List.take_length] at b;exact b
  simp only[go_sem,t0,q.rows,List.length_map]
  refine zk (by decide) (λn T h'=>∃(k:Nat) (out:zy) (L:List Ob),h'=h++(Ob.box 24 [i64 out.1,i64 out.2]::L)/\qa out/\T 2= .ptr h.length 0/\T 20=x/\T 21=i64 l.length/\T 22=i64 k/\k<=l.length/\Kz (0,1) l=Kz out (l.drop k)/\n=l.length - k) l.length
   ⟨0,(0,1),L,e,⟨⟨by decide,by decide⟩,⟨by decide,by decide⟩⟩,by simp only[go_sem,t2],by simp only[go_sem],by simp only[go_sem],by (simp only[go_sem]<;>rfl),by omega,rfl,rfl⟩ ?_
  clear q t0 t2 t9 t10 g E a f e b
  clear k L h' T
  rintro n T h' ⟨k,out,L,e,u,t2,j,o,t22,E,s,rfl⟩
  have q:SlOf h' x 2 (l.map qz):=by subst e;exact v.app _
  simp only[go_sem,j,o,t22]
  refine ways (λf=>?_) (λf=>?_)
  ·have a:k<l.length:=by simpa using f
   have z:=q.at (i:=k) (by simpa using a)
   have A:(l.map qz)[k]? =some (qz l[k]):=by simp[a]
   have m:(k:Int)<l.length:=by omega
   have t:∀M,(h'++M)[h.length]? =some (Ob.box 24 [i64 out.1,i64 out.2]):=λM=>by subst e;simp only[go_sem]
   simp only[go_sem,z,q.rows,A,m,t2,t,j,o,t22,Int.toNat_natCast,Int.natCast_nonneg,List.length_map,qz]
   refine zd (c63 out l[k] u (y _ (List.getElem_mem a)) _) ?_
   rintro _ D ⟨rfl,w⟩
   subst w
   simp only[go_sem,t2,t]
   refine ways (λd=>?_) (λd=>?_)
   ·simp only[bne_iff_ne,ne_eq] at d
    subst e
    simp only[go_sem,t2]
    rw[List.drop_eq_getElem_cons a] at s
    (first | refine zc ?_ | refine ze ?_ (by rfl))<;>(simp only[go_sem,t2,vJ,c,s,Kz,d]<;>try rfl)
   ·simp only[bne_eq_false_iff_eq] at d
    simp only[go_sem,t22,jv (show k<9223372036854775807 by omega)]
    subst e
    refine ⟨l.length - (k+1),by omega,k+1,(vZ jRa out l[k]).1,L++[Ob.box 24 [i64 l[k].1,i64 l[k].2]],by simp only[go_sem],Qq _ _ _,t2,j,o,rfl,by omega,?_,rfl⟩
    rw[s,List.drop_eq_getElem_cons a]
    simp[Kz,d]
  ·have a:k=l.length:=by
    have:¬ (k:Int)<l.length:=by simpa using f
    omega
   rw[a,List.drop_length] at s
   subst e
   simp only[go_sem,t2]
   (first | refine zc ?_ | refine ze ?_ (by rfl))<;>(simp only[go_sem,t2,vJ,c,s,Kz]<;>try rfl)
set_option maxRecDepth 100000
attribute [go_sem] v3a v5a jla v6a v7a v8a xRa xQa xSa
def ww (h:List Ob) (f:FuncId) (a:List AV) (arg:List AV->AV) (rows:List (List AV)) (p:List AV->Bool):Prop:=
 ∀row∈rows,∀L,ACalls Tryz.prog f ([arg row]++a) (h++L) λr h'=>r=bl (p row)/\h'=h++L
def Qr (rows:List (List AV)) (p:List AV->Bool):Int:=match rows.findIdx? p with
 | some i=>(i:Int)
 | none=> -1
theorem vK {rows:List (List AV)} {p:List AV->Bool} {k:Nat} (c:k<rows.length) (h0:∀j (a:j<k),p (rows[j]'(by omega))=false) (b:p rows[k]=true):Qr rows p=k:=by
 unfold Qr
 rw[List.findIdx?_eq_some_iff_getElem.2 ⟨c,b,λj a=>by simp[h0 j a]⟩]
theorem vv {rows:List (List AV)} {p:List AV->Bool} (h0:∀j (a:j<rows.length),p rows[j]=false):Qr rows p= -1:=by
 unfold Qr
 rw[List.findIdx?_eq_none_iff.2 λx b=>by obtain ⟨j,a,e⟩:=List.getElem_of_mem b;rw[<-e];exact h0 j a]
theorem kP (rows:List (List AV)) (p:List AV->Bool):decide (Qr rows p≥0)=rows.any p:=by
 unfold Qr
 cases h:rows.findIdx? p with
 | some i=>
   obtain ⟨b,a,_⟩:=List.findIdx?_eq_some_iff_getElem.1 h
   have:rows.any p=true:=List.any_eq_true.2 ⟨_,List.getElem_mem b,a⟩
   rw[this]
   simp
 | none=>
   have:=List.findIdx?_eq_none_iff.1 h
   have:rows.any p=false:=List.any_eq_false.2 λx c=>by simp[this x c]
   rw[this]
   simp
abbrev agA (row:List AV):AV:= .ag row
abbrev Zka (row:List AV):AV:=nth row 0
theorem J2a (h:List Ob) (x:AV) (f:FuncId) (q:List AV) (rows:List (List AV)) (p:List AV->Bool) (A:rows.length<9223372036854775808) (v:∀r∈rows,r.length=1) (m:SlOf h x 1 rows) (y:ww h f q Zka rows p):
  ACalls Tryz.prog 223 [x,.fn (.func f) [] q] h λr h'=>r=i64 (Qr rows p)/\h'=h:=by
 refine zf Tryz.f223 [.tmp 4] 19 rfl rfl rfl rfl rfl rfl (by decide) (⟨_,_,⟨rfl,rfl⟩,.refl⟩) λB=>?_
 simp only[go_sem,m.rows]
 refine zk (by decide) (λn T h'=>h'=h/\∃k:Nat,T 0=x/\T 1= .fn (.func f) [] q/\T 7=i64 rows.length/\T 8=i64 k/\k<=rows.length/\(∀j (e:j<rows.length),j<k->p rows[j]=false)/\n=rows.length - k) rows.length
  ⟨rfl,0,by simp only[go_sem],by simp only[go_sem],by simp only[go_sem],by (simp only[go_sem]<;>rfl),by omega,λ_ _ h=>by omega,rfl⟩ ?_
 rintro n T h' ⟨rfl,k,t0,t1,s,t8,D,h0,rfl⟩
 simp only[go_sem,s,t8]
 refine ways (λl=>?_) (λl=>?_)
 ·have a:k<rows.length:=by simpa using l
  have t:=m.at a
  have b:rows[k]? =some rows[k]:=List.getElem?_eq_getElem a
  have o:(k:Int)<rows.length:=by omega
  have w:=v rows[k] (List.getElem_mem a)
  obtain ⟨a0,d⟩:∃a0,rows[k]=[a0]:=by
   match hr:rows[k],w with
   | [a0],_=>exact ⟨_,rfl⟩
  have c:=y rows[k] (List.getElem_mem a) []
  rw[d] at b c
  simp only[List.append_nil,List.cons_append,List.nil_append,Zka,nth] at c
  simp only[go_sem,t,m.rows,b,o,t0,t1,s,t8,Int.toNat_natCast,Int.natCast_nonneg]
  refine zd c ?_
  rintro _ C ⟨rfl,u⟩
  subst u
  simp only[go_sem]
  refine ways (λi=>?_) (λi=>?_)
  ·simp only[go_sem,t8]
   rw[<-d] at i
   (first | refine zc ?_ | refine ze ?_ (by rfl))<;>(simp only[go_sem,t8,vK a (λj e=>h0 j (by omega) e) i]<;>try rfl)
  ·simp only[go_sem,t8,jv (show k<9223372036854775807 by omega)]
   rw[<-d] at i
   refine ⟨rows.length - (k+1),by omega,k+1,t0,t1,s,rfl,by omega,λj e z=>?_,rfl⟩
   rcases Nat.lt_or_ge j k with g | g
   ·exact h0 j e g
   ·have:j=k:=by omega
    subst this
    exact i
 ·have a:k=rows.length:=by
   have:¬ (k:Int)<rows.length:=by simpa using l
   omega
  simp only[go_sem]
  (first | refine zc ?_ | refine ze ?_ (by rfl))<;>(simp only[go_sem,vv λj e=>h0 j e (by omega)]<;>try rfl)
theorem c98 (h:List Ob) (x:AV) (f:FuncId) (a:List AV) (rows:List (List AV)) (p:List AV->Bool) (g:rows.length<9223372036854775808) (e:∀r∈rows,r.length=1) (d:SlOf h x 1 rows) (b:ww h f a Zka rows p):
  ACalls Tryz.prog 210 [x,.fn (.func f) [] a] h λr h'=>r=bl (rows.any p)/\h'=h:=by
 refine zf Tryz.f210 [.tmp 4] 9 rfl rfl rfl rfl rfl rfl (by decide) (⟨_,_,⟨rfl,rfl⟩,.refl⟩) λB=>?_
 simp only[go_sem]
 refine zd (J2a h x f a rows p g e d b) ?_
 rintro _ i ⟨rfl,c⟩
 subst c
 simp only[go_sem,kP]
 (first | refine zc ?_ | refine ze ?_ (by rfl))<;>(simp only[go_sem,kP]<;>try rfl)
theorem J3a (h:List Ob) (x:AV) (f:FuncId) (q:List AV) (rows:List (List AV)) (p:List AV->Bool) (A:rows.length<9223372036854775808) (v:∀r∈rows,r.length=2) (m:SlOf h x 2 rows) (y:ww h f q agA rows p):
  ACalls Tryz.prog 259 [x,.fn (.func f) [] q] h λr h'=>r=i64 (Qr rows p)/\h'=h:=by
 refine zf Tryz.f259 [.tmp 4] 19 rfl rfl rfl rfl rfl rfl (by decide) (⟨_,_,⟨rfl,rfl⟩,.refl⟩) λB=>?_
 simp only[go_sem,m.rows]
 refine zk (by decide) (λn T h'=>h'=h/\∃k:Nat,T 0=x/\T 1= .fn (.func f) [] q/\T 7=i64 rows.length/\T 8=i64 k/\k<=rows.length/\(∀j (e:j<rows.length),j<k->p rows[j]=false)/\n=rows.length - k) rows.length
  ⟨rfl,0,by simp only[go_sem],by simp only[go_sem],by simp only[go_sem],by (simp only[go_sem]<;>rfl),by omega,λ_ _ h=>by omega,rfl⟩ ?_
 rintro n T h' ⟨rfl,k,t0,t1,s,t8,D,h0,rfl⟩
 simp only[go_sem,s,t8]
 refine ways (λl=>?_) (λl=>?_)
 ·have a:k<rows.length:=by simpa using l
  have t:=m.at a
  have b:rows[k]? =some rows[k]:=List.getElem?_eq_getElem a
  have o:(k:Int)<rows.length:=by omega
  have w:=v rows[k] (List.getElem_mem a)
  obtain ⟨a0,a1,d⟩:∃a0 a1,rows[k]=[a0,a1]:=by
   match hr:rows[k],w with
   | [a0,a1],_=>exact ⟨_,_,rfl⟩
  have c:=y rows[k] (List.getElem_mem a) []
  rw[d] at b c
  simp only[List.append_nil,List.cons_append,List.nil_append,agA,nth] at c
  simp only[go_sem,t,m.rows,b,o,t0,t1,s,t8,Int.toNat_natCast,Int.natCast_nonneg]
  refine zd c ?_
  rintro _ C ⟨rfl,u⟩
  subst u
  simp only[go_sem]
  refine ways (λi=>?_) (λi=>?_)
  ·simp only[go_sem,t8]
   rw[<-d] at i
   (first | refine zc ?_ | refine ze ?_ (by rfl))<;>(simp only[go_sem,t8,vK a (λj e=>h0 j (by omega) e) i]<;>try rfl)
  ·simp only[go_sem,t8,jv (show k<9223372036854775807 by omega)]
   rw[<-d] at i
   refine ⟨rows.length - (k+1),by omega,k+1,t0,t1,s,rfl,by omega,λj e z=>?_,rfl⟩
   rcases Nat.lt_or_ge j k with g | g
   ·exact h0 j e g
   ·have:j=k:=by omega
    subst this
    exact i
 ·have a:k=rows.length:=by
   have:¬ (k:Int)<rows.length:=by simpa using l
   omega
  simp only[go_sem]
  (first | refine zc ?_ | refine ze ?_ (by rfl))<;>(simp only[go_sem,vv λj e=>h0 j e (by omega)]<;>try rfl)
theorem J4a (h:List Ob) (x:AV) (f:FuncId) (a:List AV) (rows:List (List AV)) (p:List AV->Bool) (g:rows.length<9223372036854775808) (e:∀r∈rows,r.length=2) (d:SlOf h x 2 rows) (b:ww h f a agA rows p):
  ACalls Tryz.prog 213 [x,.fn (.func f) [] a] h λr h'=>r=bl (rows.any p)/\h'=h:=by
 refine zf Tryz.f213 [.tmp 4] 9 rfl rfl rfl rfl rfl rfl (by decide) (⟨_,_,⟨rfl,rfl⟩,.refl⟩) λB=>?_
 simp only[go_sem]
 refine zd (J3a h x f a rows p g e d b) ?_
 rintro _ i ⟨rfl,c⟩
 subst c
 simp only[go_sem,kP]
 (first | refine zc ?_ | refine ze ?_ (by rfl))<;>(simp only[go_sem,kP]<;>try rfl)
theorem J5a (h:List Ob) (x:AV) (f:FuncId) (q:List AV) (rows:List (List AV)) (p:List AV->Bool) (A:rows.length<9223372036854775808) (v:∀r∈rows,r.length=3) (m:SlOf h x 3 rows) (y:ww h f q agA rows p):
  ACalls Tryz.prog 212 [x,.fn (.func f) [] q] h λr h'=>r=i64 (Qr rows p)/\h'=h:=by
 refine zf Tryz.f212 [.tmp 4] 19 rfl rfl rfl rfl rfl rfl (by decide) (⟨_,_,⟨rfl,rfl⟩,.refl⟩) λB=>?_
 simp only[go_sem,m.rows]
 refine zk (by decide) (λn T h'=>h'=h/\∃k:Nat,T 0=x/\T 1= .fn (.func f) [] q/\T 7=i64 rows.length/\T 8=i64 k/\k<=rows.length/\(∀j (e:j<rows.length),j<k->p rows[j]=false)/\n=rows.length - k) rows.length
  ⟨rfl,0,by simp only[go_sem],by simp only[go_sem],by simp only[go_sem],by (simp only[go_sem]<;>rfl),by omega,λ_ _ h=>by omega,rfl⟩ ?_
 rintro n T h' ⟨rfl,k,t0,t1,s,t8,D,h0,rfl⟩
 simp only[go_sem,s,t8]
 refine ways (λl=>?_) (λl=>?_)
 ·have a:k<rows.length:=by simpa using l
  have t:=m.at a
  have b:rows[k]? =some rows[k]:=List.getElem?_eq_getElem a
  have o:(k:Int)<rows.length:=by omega
  have w:=v rows[k] (List.getElem_mem a)
  obtain ⟨a0,a1,a2,d⟩:∃a0 a1 a2,rows[k]=[a0,a1,a2]:=by
   match hr:rows[k],w with
   | [a0,a1,a2],_=>exact ⟨_,_,_,rfl⟩
  have c:=y rows[k] (List.getElem_mem a) []
  rw[d] at b c
  simp only[List.append_nil,List.cons_append,List.nil_append,agA,nth] at c
  simp only[go_sem,t,m.rows,b,o,t0,t1,s,t8,Int.toNat_natCast,Int.natCast_nonneg]
  refine zd c ?_
  rintro _ C ⟨rfl,u⟩
  subst u
  simp only[go_sem]
  refine ways (λi=>?_) (λi=>?_)
  ·simp only[go_sem,t8]
   rw[<-d] at i
   (first | refine zc ?_ | refine ze ?_ (by rfl))<;>(simp only[go_sem,t8,vK a (λj e=>h0 j (by omega) e) i]<;>try rfl)
  ·simp only[go_sem,t8,jv (show k<9223372036854775807 by omega)]
   rw[<-d] at i
   refine ⟨rows.length - (k+1),by omega,k+1,t0,t1,s,rfl,by omega,λj e z=>?_,rfl⟩
   rcases Nat.lt_or_ge j k with g | g
   ·exact h0 j e g
   ·have:j=k:=by omega
    subst this
    exact i
 ·have a:k=rows.length:=by
   have:¬ (k:Int)<rows.length:=by simpa using l
   omega
  simp only[go_sem]
  (first | refine zc ?_ | refine ze ?_ (by rfl))<;>(simp only[go_sem,vv λj e=>h0 j e (by omega)]<;>try rfl)
theorem c78 (h:List Ob) (x:AV) (f:FuncId) (a:List AV) (rows:List (List AV)) (p:List AV->Bool) (g:rows.length<9223372036854775808) (e:∀r∈rows,r.length=3) (d:SlOf h x 3 rows) (b:ww h f a agA rows p):
  ACalls Tryz.prog 143 [x,.fn (.func f) [] a] h λr h'=>r=bl (rows.any p)/\h'=h:=by
 refine zf Tryz.f143 [.tmp 4] 9 rfl rfl rfl rfl rfl rfl (by decide) (⟨_,_,⟨rfl,rfl⟩,.refl⟩) λB=>?_
 simp only[go_sem]
 refine zd (J5a h x f a rows p g e d b) ?_
 rintro _ i ⟨rfl,c⟩
 subst c
 simp only[go_sem,kP]
 (first | refine zc ?_ | refine ze ?_ (by rfl))<;>(simp only[go_sem,kP]<;>try rfl)
theorem J6a (h:List Ob) (x:AV) (f:FuncId) (q:List AV) (rows:List (List AV)) (p:List AV->Bool) (A:rows.length<9223372036854775808) (v:∀r∈rows,r.length=4) (m:SlOf h x 4 rows) (y:ww h f q agA rows p):
  ACalls Tryz.prog 215 [x,.fn (.func f) [] q] h λr h'=>r=i64 (Qr rows p)/\h'=h:=by
 refine zf Tryz.f215 [.tmp 4] 19 rfl rfl rfl rfl rfl rfl (by decide) (⟨_,_,⟨rfl,rfl⟩,.refl⟩) λB=>?_
 simp only[go_sem,m.rows]
 refine zk (by decide) (λn T h'=>h'=h/\∃k:Nat,T 0=x/\T 1= .fn (.func f) [] q/\T 7=i64 rows.length/\T 8=i64 k/\k<=rows.length/\(∀j (e:j<rows.length),j<k->p rows[j]=false)/\n=rows.length - k) rows.length
  ⟨rfl,0,by simp only[go_sem],by simp only[go_sem],by simp only[go_sem],by (simp only[go_sem]<;>rfl),by omega,λ_ _ h=>by omega,rfl⟩ ?_
 rintro n T h' ⟨rfl,k,t0,t1,s,t8,D,h0,rfl⟩
 simp only[go_sem,s,t8]
 refine ways (λl=>?_) (λl=>?_)
 ·have a:k<rows.length:=by simpa using l
  have t:=m.at a
  have b:rows[k]? =some rows[k]:=List.getElem?_eq_getElem a
  have o:(k:Int)<rows.length:=by omega
  have w:=v rows[k] (List.getElem_mem a)
  obtain ⟨a0,a1,a2,a3,d⟩:∃a0 a1 a2 a3,rows[k]=[a0,a1,a2,a3]:=by
   match hr:rows[k],w with
   | [a0,a1,a2,a3],_=>exact ⟨_,_,_,_,rfl⟩
  have c:=y rows[k] (List.getElem_mem a) []
  rw[d] at b c
  simp only[List.append_nil,List.cons_append,List.nil_append,agA,nth] at c
  simp only[go_sem,t,m.rows,b,o,t0,t1,s,t8,Int.toNat_natCast,Int.natCast_nonneg]
  refine zd c ?_
  rintro _ C ⟨rfl,u⟩
  subst u
  simp only[go_sem]
  refine ways (λi=>?_) (λi=>?_)
  ·simp only[go_sem,t8]
   rw[<-d] at i
   (first | refine zc ?_ | refine ze ?_ (by rfl))<;>(simp only[go_sem,t8,vK a (λj e=>h0 j (by omega) e) i]<;>try rfl)
  ·simp only[go_sem,t8,jv (show k<9223372036854775807 by omega)]
   rw[<-d] at i
   refine ⟨rows.length - (k+1),by omega,k+1,t0,t1,s,rfl,by omega,λj e z=>?_,rfl⟩
   rcases Nat.lt_or_ge j k with g | g
   ·exact h0 j e g
   ·have:j=k:=by omega
    subst this
    exact i
 ·have a:k=rows.length:=by
   have:¬ (k:Int)<rows.length:=by simpa using l
   omega
  simp only[go_sem]
  (first | refine zc ?_ | refine ze ?_ (by rfl))<;>(simp only[go_sem,vv λj e=>h0 j e (by omega)]<;>try rfl)
theorem c81 (h:List Ob) (x:AV) (f:FuncId) (a:List AV) (rows:List (List AV)) (p:List AV->Bool) (g:rows.length<9223372036854775808) (e:∀r∈rows,r.length=4) (d:SlOf h x 4 rows) (b:ww h f a agA rows p):
  ACalls Tryz.prog 146 [x,.fn (.func f) [] a] h λr h'=>r=bl (rows.any p)/\h'=h:=by
 refine zf Tryz.f146 [.tmp 4] 9 rfl rfl rfl rfl rfl rfl (by decide) (⟨_,_,⟨rfl,rfl⟩,.refl⟩) λB=>?_
 simp only[go_sem]
 refine zd (J6a h x f a rows p g e d b) ?_
 rintro _ i ⟨rfl,c⟩
 subst c
 simp only[go_sem,kP]
 (first | refine zc ?_ | refine ze ?_ (by rfl))<;>(simp only[go_sem,kP]<;>try rfl)
theorem c42 (h:List Ob) (x:AV) (f:FuncId) (u:List AV) (rows:List (List AV)) (p:List AV->Bool) (F:rows.length<9223372036854775808) (A:∀r∈rows,r.length=11) (s:SlOf h x 11 rows) (D:ww h f u agA rows p):
  ACalls Tryz.prog 61 [x,.fn (.func f) [] u] h λr h'=>r=i64 (Qr rows p)/\h'=h:=by
 refine zf Tryz.f61 [.tmp 4] 19 rfl rfl rfl rfl rfl rfl (by decide) (⟨_,_,⟨rfl,rfl⟩,.refl⟩) λB=>?_
 simp only[go_sem,s.rows]
 refine zk (by decide) (λn T h'=>h'=h/\∃k:Nat,T 0=x/\T 1= .fn (.func f) [] u/\T 7=i64 rows.length/\T 8=i64 k/\k<=rows.length/\(∀j (g:j<rows.length),j<k->p rows[j]=false)/\n=rows.length - k) rows.length
  ⟨rfl,0,by simp only[go_sem],by simp only[go_sem],by simp only[go_sem],by (simp only[go_sem]<;>rfl),by omega,λ_ _ h=>by omega,rfl⟩ ?_
 rintro n T h' ⟨rfl,k,t0,t1,v,t8,H,h0,rfl⟩
 simp only[go_sem,v,t8]
 refine ways (λo=>?_) (λo=>?_)
 ·have a:k<rows.length:=by simpa using o
  have w:=s.at a
  have b:rows[k]? =some rows[k]:=List.getElem?_eq_getElem a
  have t:(k:Int)<rows.length:=by omega
  have C:=A rows[k] (List.getElem_mem a)
  obtain ⟨a0,a1,a2,a3,a4,a5,m,q,y,a9,d,e⟩:∃a0 a1 a2 a3 a4 a5 m q y a9 d,rows[k]=[a0,a1,a2,a3,a4,a5,m,q,y,a9,d]:=by
   match hr:rows[k],C with
   | [a0,a1,a2,a3,a4,a5,m,q,y,a9,d],_=>exact ⟨_,_,_,_,_,_,_,_,_,_,_,rfl⟩
  have c:=D rows[k] (List.getElem_mem a) []
  rw[e] at b c
  simp only[List.append_nil,List.cons_append,List.nil_append,agA,nth] at c
  simp only[go_sem,w,s.rows,b,t,t0,t1,v,t8,Int.toNat_natCast,Int.natCast_nonneg]
  refine zd c ?_
  rintro _ G ⟨rfl,z⟩
  subst z
  simp only[go_sem]
  refine ways (λl=>?_) (λl=>?_)
  ·simp only[go_sem,t8]
   rw[<-e] at l
   (first | refine zc ?_ | refine ze ?_ (by rfl))<;>(simp only[go_sem,t8,vK a (λj g=>h0 j (by omega) g) l]<;>try rfl)
  ·simp only[go_sem,t8,jv (show k<9223372036854775807 by omega)]
   rw[<-e] at l
   refine ⟨rows.length - (k+1),by omega,k+1,t0,t1,v,rfl,by omega,λj g E=>?_,rfl⟩
   rcases Nat.lt_or_ge j k with i | i
   ·exact h0 j g i
   ·have:j=k:=by omega
    subst this
    exact l
 ·have a:k=rows.length:=by
   have:¬ (k:Int)<rows.length:=by simpa using o
   omega
  simp only[go_sem]
  (first | refine zc ?_ | refine ze ?_ (by rfl))<;>(simp only[go_sem,vv λj g=>h0 j g (by omega)]<;>try rfl)
end Go.Proofs.YtigdlmpjijhpaaaGreat.Ax
