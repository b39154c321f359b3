/-
  Joined.
-/
import Derived.Test.YtfmldcilgbbimaaGreatK11
import Derived.Test.YtfmldcilgbbimaaGreatK10
import Derived.IntWalk
set_option linter.unusedSimpArgs false
set_option linter.unusedVariables false
namespace Go.Proofs.YtfmldcilgbbimaaGreat.Ax
open Go Go.Proofs
set_option maxRecDepth 100000
attribute [go_sem] ty3 ty4 QOa Kaa Kba
abbrev i64 (n:Int):AV:= .v (.int .i64 n)
abbrev bl (b:Bool):AV:= .v (.bool b)
abbrev XRa (n d:Int):AV:= .ag [i64 n,i64 d]
abbrev wr (n:Int):Int:=IntKind.wrap .i64 n
theorem c52:ji Tryz.prog 184 [] (XRa 0 1):=λh=>by
 refine zf Tryz.f184 [.cell 0 24] 2 rfl rfl rfl rfl rfl rfl (by decide) (⟨_,_,⟨rfl,rfl⟩,.refl⟩) λB=>?_
 simp only[go_sem]
 (first | refine zd ?_ | refine ze ?_ (by rfl))<;>(simp only[go_sem]<;>try rfl)
def Z3 (n:Int):Int:=if n= -9223372036854775808 then 4611686018427387904 else if n<0 then wr (0 - n) else n
theorem c84 (n:Int):ji Tryz.prog 236 [i64 n] (i64 (Z3 n)):=λh=>by
 refine zf Tryz.f236 [.tmp 2] 12 rfl rfl rfl rfl rfl rfl (by decide) (⟨_,_,⟨rfl,rfl⟩,.refl⟩) λB=>?_
 simp only[go_sem]
 refine ways (λe=>?_) (λe=>?_)
 ·simp only[beq_iff_eq] at e
  (first | refine zd ?_ | refine ze ?_ (by rfl))<;>(simp only[go_sem,Z3,e]<;>try rfl)
 ·simp only[beq_eq_false_iff_ne,ne_eq] at e
  simp only[go_sem]
  refine ways (λa=>?_) (λa=>?_)
  ·simp only[decide_eq_true_eq] at a
   simp only[go_sem]
   (first | refine zd ?_ | refine ze ?_ (by rfl))<;>(simp only[go_sem,Z3,e,a]<;>try rfl)
  ·simp only[decide_eq_false_iff_not] at a
   simp only[go_sem]
   (first | refine zd ?_ | refine ze ?_ (by rfl))<;>(simp only[go_sem,Z3,e,a]<;>try rfl)
def Fit (n:Int):Prop:= -9223372036854775808<=n/\n<=9223372036854775807
theorem zI {n:Int} (h:Fit n):wr n=n:=Go.IntWalk.i64_in n h
theorem kQa {n:Int} (h:Fit n):0<=Z3 n:=by
 unfold Z3
 split
 ·omega
 ·split
  ·rw[zI (by unfold Fit at *; omega)];omega
  ·omega
def KV (a b:Int):Int:=(Nat.gcd (Z3 a).toNat (Z3 b).toNat:Int)
theorem c53 (a b:Int) (g:Fit a) (i:Fit b):ji Tryz.prog 186 [i64 a,i64 b] (i64 (KV a b)):=λh=>by
 refine zf Tryz.f186 [.tmp 4] 16 rfl rfl rfl rfl rfl rfl (by decide) (⟨_,_,⟨rfl,rfl⟩,.refl⟩) λB=>?_
 simp only[go_sem]
 refine zc (c84 a h) ?_
 rintro _ _ ⟨rfl,rfl⟩
 simp only[go_sem]
 refine zc (c84 b _) ?_
 rintro _ _ ⟨rfl,rfl⟩
 simp only[go_sem]
 rename_i h
 refine zj (by decide) (λn T h'=>h'=h/\∃x y:Nat,T 0=i64 x/\T 1=i64 y/\Nat.gcd x y=Nat.gcd (Z3 a).toNat (Z3 b).toNat/\y=n) _ ⟨rfl,(Z3 a).toNat,(Z3 b).toNat,?_,?_,rfl,rfl⟩ ?_
 ·simp only[go_sem,Int.toNat_of_nonneg (kQa g)]
 ·simp only[go_sem,Int.toNat_of_nonneg (kQa i)]
 rintro n T h ⟨rfl,x,y,h0,f,c,rfl⟩
 simp only[go_sem,h0,f]
 refine ways (λe=>?_) (λe=>?_)
 ·simp only[go_sem]
  have hyp:0<y:=by simpa using e
  have d:¬ (y:Int)=0:=by omega
  refine zn rfl [] 0 [(0,0,[]),(1,0,[]),(2,0,[]),(3,0,[]),(4,0,[]),(5,0,[])] rfl (by decide) (by decide) ?_
  simp only[go_sem,h0,f,d]
  refine ⟨x % y,Nat.mod_lt _ hyp,y,x % y,rfl,by rw[Int.ofNat_tmod],?_,rfl⟩
  rw[<-c,Nat.gcd_comm y, <-Nat.gcd_rec,Nat.gcd_comm]
 ·simp only[go_sem]
  have d:y=0:=by simpa using e
  subst d
  rw[Nat.gcd_zero_right] at c
  simp only[go_sem,h0]
  (first | refine zd ?_ | refine ze ?_ (by rfl))<;>(simp only[go_sem,KV,h0,c]<;>try rfl)
theorem Zca {a b:Int} (c:Fit b) (h:0<b):0<KV a b:=by
 have:Z3 b=b:=by
  unfold Z3
  split
  ·omega
  ·split<;>omega
 unfold KV
 rw[this]
 have:=Nat.gcd_pos_of_pos_right (Z3 a).toNat (show 0<b.toNat by omega)
 omega
abbrev zF:=Int × Int
abbrev rat (p:zF):AV:=XRa p.1 p.2
def make (n d:Int):zF × Int:=
 if d<=0 then ((0,0),20) else if n=0 then ((0,1),0) else
  if wr (n.tdiv (KV n d))>2147483647∨wr (n.tdiv (KV n d))< -2147483647∨wr (d.tdiv (KV n d))>2147483647 then ((0,0),10) else ((wr (n.tdiv (KV n d)),wr (d.tdiv (KV n d))),0)
abbrev J5 (p:zF × Int):AV:= .tup [rat p.1,i64 p.2]
theorem c18 (n d:Int) (j:Fit n) (i:Fit d):ji Tryz.prog 115 [i64 n,i64 d] (J5 (make n d)):=λh=>by
 refine zf Tryz.f115 [.cell 4 24,.tmp 5] 36 rfl rfl rfl rfl rfl rfl (by decide) (⟨_,_,⟨rfl,rfl⟩,.refl⟩) λB=>?_
 simp only[go_sem]
 refine ways (λe=>?_) (λe=>?_)
 ·simp only[decide_eq_true_eq] at e
  simp only[go_sem]
  (first | refine zd ?_ | refine ze ?_ (by rfl))<;>(simp only[go_sem,make,e]<;>try rfl)
 simp only[decide_eq_false_iff_not] at e
 simp only[go_sem]
 refine ways (λf=>?_) (λf=>?_)
 ·simp only[beq_iff_eq] at f
  simp only[go_sem]
  refine zc (c52 _) ?_
  rintro _ _ ⟨rfl,rfl⟩
  simp only[go_sem]
  (first | refine zd ?_ | refine ze ?_ (by rfl))<;>(simp only[go_sem,make,e,f]<;>try rfl)
 simp only[beq_eq_false_iff_ne,ne_eq] at f
 simp only[go_sem]
 refine zc (c53 n d j i _) ?_
 rintro _ _ ⟨rfl,rfl⟩
 simp only[go_sem]
 refine zn rfl [] 0 [(0,0,[]),(1,0,[]),(2,0,[]),(3,0,[]),(4,0,[]),(5,0,[]),(6,0,[]),(7,0,[])] rfl (by decide) (by decide) ?_
 have k:¬ KV n d=0:=by have:=Zca (a:=n) i (by omega);omega
 simp only[go_sem,k]
 refine ways (λb=>?_) (λb=>?_)
 ·have b:=xk b
  simp only[go_sem,b]
  refine ways (λc=>?_) (λc=>?_)
  ·have c:=xk c
   simp only[go_sem,c]
   refine ways (λg=>?_) (λg=>?_)
   ·simp only[go_sem]
    simp only[decide_eq_true_eq,decide_eq_false_iff_not] at b c g
    (first | refine zd ?_ | refine ze ?_ (by rfl))<;>(simp only[go_sem,make,e,f,b,c,g,or_true]<;>try rfl)
   ·simp only[go_sem]
    simp only[decide_eq_true_eq,decide_eq_false_iff_not] at b c g
    (first | refine zd ?_ | refine ze ?_ (by rfl))<;>(simp only[go_sem,make,e,f,b,c,g,or_self]<;>try rfl)
  ·have c:=xj c
   simp only[go_sem,c]
   simp only[decide_eq_true_eq,decide_eq_false_iff_not] at b c
   (first | refine zd ?_ | refine ze ?_ (by rfl))<;>(simp only[go_sem,make,e,f,b,c,true_or,or_true]<;>try rfl)
 ·have b:=xj b
  simp only[go_sem,b]
  simp only[decide_eq_true_eq] at b
  (first | refine zd ?_ | refine ze ?_ (by rfl))<;>(simp only[go_sem,make,e,f,b,true_or]<;>try rfl)
def rok (p:zF):Bool:=(make p.1 p.2).2==0 && ((make p.1 p.2).1.1==p.1 && (make p.1 p.2).1.2==p.2)
theorem c27 (p:zF) (b:Fit p.1) (a:Fit p.2):ji Tryz.prog 119 [rat p] (bl (rok p)):=λh=>by
 refine zf Tryz.f119 [.tmp 2] 20 rfl rfl rfl rfl rfl rfl (by decide) (⟨_,_,⟨rfl,rfl⟩,.refl⟩) λB=>?_
 simp only[go_sem]
 refine zc (c18 p.1 p.2 b a _) ?_
 rintro _ _ ⟨rfl,rfl⟩
 simp only[go_sem]
 refine ways (λe=>?_) (λe=>?_)
 ·have e:=jr e
  simp only[go_sem,e]
  (first | refine zd ?_ | refine ze ?_ (by rfl))<;>(simp only[go_sem,rok,e]<;>try rfl)
 ·have e:=jq e
  simp only[go_sem,e]
  (first | refine zd ?_ | refine ze ?_ (by rfl))<;>(simp only[go_sem,rok,e]<;>try rfl)
theorem kI (n:Int):Fit (wr n):=by
 unfold Fit wr
 rw[IntKind.wrap_i64]
 omega
def qj (p:zF):Prop:=Fit p.1/\Fit p.2
def Two (f:FuncId) (v:zF->zF->Int × Int):Prop:=∀(h:List Ob) (i j:Nat) (a b:zF),h[i]? =some (.box 24 [i64 a.1,i64 a.2])->h[j]? =some (.box 24 [i64 b.1,i64 b.2])->
 ACalls Tryz.prog f [.ptr i 0,.ptr j 0] h λr h'=>r= .tup [i64 (v a b).1,i64 (v a b).2]/\h'=h
theorem c55:Two 188 λa b=>(wr (wr (a.1*b.2) - wr (b.1*a.2)),wr (a.2*b.2)):=λh i j a b d c=>by
 refine zf Tryz.f188 [.tmp 2,.tmp 3] 20 rfl rfl rfl rfl rfl rfl (by decide) (⟨_,_,⟨rfl,rfl⟩,.refl⟩) λB=>?_
 simp only[go_sem]
 refine zn rfl [] 0 [(0,0,[]),(2,0,[]),(5,0,[]),(7,0,[]),(11,0,[]),(13,0,[]),(1,0,[]),(3,0,[]),(4,0,[]),(6,0,[]),(8,0,[]),(9,0,[]),(10,0,[]),(16,0,[]),(12,0,[]),(14,0,[]),(15,0,[]),(17,0,[])] rfl (by decide) (by decide) ?_
 simp only[go_sem,d,c]
 (first | refine zd ?_ | refine ze ?_ (by rfl))<;>(simp only[go_sem]<;>try rfl)
theorem c92:Two 235 λa b=>(wr (wr (a.1*b.2)+wr (b.1*a.2)),wr (a.2*b.2)):=λh i j a b d c=>by
 refine zf Tryz.f235 [.tmp 2,.tmp 3] 20 rfl rfl rfl rfl rfl rfl (by decide) (⟨_,_,⟨rfl,rfl⟩,.refl⟩) λB=>?_
 simp only[go_sem]
 refine zn rfl [] 0 [(0,0,[]),(2,0,[]),(5,0,[]),(7,0,[]),(11,0,[]),(13,0,[]),(1,0,[]),(3,0,[]),(4,0,[]),(6,0,[]),(8,0,[]),(9,0,[]),(10,0,[]),(16,0,[]),(12,0,[]),(14,0,[]),(15,0,[]),(17,0,[])] rfl (by decide) (by decide) ?_
 simp only[go_sem,d,c]
 (first | refine zd ?_ | refine ze ?_ (by rfl))<;>(simp only[go_sem]<;>try rfl)
theorem c64:Two 234 λa b=>(wr (a.1*b.1),wr (a.2*b.2)):=λh i j a b d c=>by
 refine zf Tryz.f234 [.tmp 2,.tmp 3] 14 rfl rfl rfl rfl rfl rfl (by decide) (⟨_,_,⟨rfl,rfl⟩,.refl⟩) λB=>?_
 simp only[go_sem]
 refine zn rfl [] 0 [(0,0,[]),(2,0,[]),(5,0,[]),(7,0,[]),(1,0,[]),(3,0,[]),(4,0,[]),(10,0,[]),(6,0,[]),(8,0,[]),(9,0,[]),(11,0,[])] rfl (by decide) (by decide) ?_
 simp only[go_sem,d,c]
 (first | refine zd ?_ | refine ze ?_ (by rfl))<;>(simp only[go_sem]<;>try rfl)
theorem c75:Two 189 λa b=>(wr (a.1*b.2),wr (a.2*b.1)):=λh i j a b d c=>by
 refine zf Tryz.f189 [.tmp 2,.tmp 3] 14 rfl rfl rfl rfl rfl rfl (by decide) (⟨_,_,⟨rfl,rfl⟩,.refl⟩) λB=>?_
 simp only[go_sem]
 refine zn rfl [] 0 [(0,0,[]),(2,0,[]),(5,0,[]),(7,0,[]),(1,0,[]),(3,0,[]),(4,0,[]),(10,0,[]),(6,0,[]),(8,0,[]),(9,0,[]),(11,0,[])] rfl (by decide) (by decide) ?_
 simp only[go_sem,d,c]
 (first | refine zd ?_ | refine ze ?_ (by rfl))<;>(simp only[go_sem]<;>try rfl)
def w8 (v:zF->zF->Int × Int) (a b:zF):zF × Int:=if (rok a && rok b)=true then make (v a b).1 (v a b).2 else ((0,0),20)
theorem c54 (h:List Ob) (a b:zF) (g:qj a) (i:qj b) (f:FuncId) (cs:List AV) (n d:Int) (l:Fit n) (k:Fit d) (j:∀L,ACalls Tryz.prog f cs (h++L) λr h'=>r= .tup [i64 n,i64 d]/\h'=h++L):
  ACalls Tryz.prog 187 [rat a,rat b,.fn (.func f) [] cs] h λr h'=>r=J5 (if (rok a && rok b)=true then make n d else ((0,0),20))/\h'=h:=by
 refine zf Tryz.f187 [.cell 6 24,.tmp 7] 24 rfl rfl rfl rfl rfl rfl (by decide) (⟨_,_,⟨rfl,rfl⟩,.refl⟩) λB=>?_
 simp only[go_sem]
 refine zc (c27 a g.1 g.2 _) ?_
 rintro _ _ ⟨rfl,rfl⟩
 simp only[go_sem]
 refine ways (λe=>?_) (λe=>?_)
 ·have e:=xk e
  simp only[Bool.not_eq_false'] at e
  simp only[go_sem,e]
  refine zc (c27 b i.1 i.2 _) ?_
  rintro _ _ ⟨rfl,rfl⟩
  simp only[go_sem,e]
  refine ways (λc=>?_) (λc=>?_)
  ·simp only[Bool.not_eq_true'] at c
   simp only[go_sem,e,c]
   (first | refine zd ?_ | refine ze ?_ (by rfl))<;>(simp only[go_sem,e,c]<;>try rfl)
  ·simp only[Bool.not_eq_false'] at c
   simp only[go_sem,e,c]
   refine zc (j _) ?_
   rintro _ _ ⟨rfl,rfl⟩
   simp only[go_sem]
   refine zc (c18 n d l k _) ?_
   rintro _ _ ⟨rfl,rfl⟩
   simp only[go_sem]
   (first | refine zd ?_ | refine ze ?_ (by rfl))<;>(simp only[go_sem,e,c]<;>try rfl)
 ·have e:=xj e
  simp only[Bool.not_eq_true'] at e
  simp only[go_sem,e]
  (first | refine zd ?_ | refine ze ?_ (by rfl))<;>(simp only[go_sem,e]<;>try rfl)
theorem Jda {f:FuncId} {v:zF->zF->Int × Int} (k:Two f v) (c:∀a b,Fit (v a b).1/\Fit (v a b).2) {h:List Ob} (a b:zF) (d:qj a) (l:qj b) (i j:Nat) (e:h[i]? =some (.box 24 [i64 a.1,i64 a.2])) (g:h[j]? =some (.box 24 [i64 b.1,i64 b.2])):
  ACalls Tryz.prog 187 [rat a,rat b,.fn (.func f) [] [.ptr i 0,.ptr j 0]] h λr h'=>r=J5 (w8 v a b)/\h'=h:=
 c54 h a b d l f _ _ _ (c a b).1 (c a b).2 λL=>k _ i j a b (zb e) (zb g)
abbrev Jea (a b:zF):Int × Int:=(wr (wr (a.1*b.2) - wr (b.1*a.2)),wr (a.2*b.2))
abbrev wca (a b:zF):Int × Int:=(wr (wr (a.1*b.2)+wr (b.1*a.2)),wr (a.2*b.2))
abbrev Jfa (a b:zF):Int × Int:=(wr (a.1*b.1),wr (a.2*b.2))
abbrev Zda (a b:zF):Int × Int:=(wr (a.1*b.2),wr (a.2*b.1))
theorem c19 (a b:zF) (c:qj a) (d:qj b):ji Tryz.prog 117 [rat a,rat b] (J5 (w8 Jea a b)):=λh=>by
 refine zf Tryz.f117 [.cell 4 24,.tmp 5] 12 rfl rfl rfl rfl rfl rfl (by decide) (⟨_,_,⟨rfl,rfl⟩,.refl⟩) λB=>?_
 simp only[go_sem]
 refine zc (Jda (v:=Jea) c55 (λ_ _=>⟨kI _,kI _⟩) a b c d _ _ (by simp only[go_sem]) (by simp only[go_sem])) ?_
 rintro _ _ ⟨rfl,rfl⟩
 simp only[go_sem]
 (first | refine zd ?_ | refine ze ?_ (by rfl))<;>(simp only[go_sem]<;>try rfl)
theorem c63 (a b:zF) (c:qj a) (d:qj b):ji Tryz.prog 185 [rat a,rat b] (J5 (w8 wca a b)):=λh=>by
 refine zf Tryz.f185 [.cell 4 24,.tmp 5] 12 rfl rfl rfl rfl rfl rfl (by decide) (⟨_,_,⟨rfl,rfl⟩,.refl⟩) λB=>?_
 simp only[go_sem]
 refine zc (Jda (v:=wca) c92 (λ_ _=>⟨kI _,kI _⟩) a b c d _ _ (by simp only[go_sem]) (by simp only[go_sem])) ?_
 rintro _ _ ⟨rfl,rfl⟩
 simp only[go_sem]
 (first | refine zd ?_ | refine ze ?_ (by rfl))<;>(simp only[go_sem]<;>try rfl)
theorem c24 (a b:zF) (c:qj a) (d:qj b):ji Tryz.prog 183 [rat a,rat b] (J5 (w8 Jfa a b)):=λh=>by
 refine zf Tryz.f183 [.cell 4 24,.tmp 5] 12 rfl rfl rfl rfl rfl rfl (by decide) (⟨_,_,⟨rfl,rfl⟩,.refl⟩) λB=>?_
 simp only[go_sem]
 refine zc (Jda (v:=Jfa) c64 (λ_ _=>⟨kI _,kI _⟩) a b c d _ _ (by simp only[go_sem]) (by simp only[go_sem])) ?_
 rintro _ _ ⟨rfl,rfl⟩
 simp only[go_sem]
 (first | refine zd ?_ | refine ze ?_ (by rfl))<;>(simp only[go_sem]<;>try rfl)
theorem c46 (a b:zF) (c:qj a) (d:qj b):ji Tryz.prog 118 [rat a,rat b] (J5 (w8 Zda a b)):=λh=>by
 refine zf Tryz.f118 [.cell 4 24,.tmp 5] 12 rfl rfl rfl rfl rfl rfl (by decide) (⟨_,_,⟨rfl,rfl⟩,.refl⟩) λB=>?_
 simp only[go_sem]
 refine zc (Jda (v:=Zda) c75 (λ_ _=>⟨kI _,kI _⟩) a b c d _ _ (by simp only[go_sem]) (by simp only[go_sem])) ?_
 rintro _ _ ⟨rfl,rfl⟩
 simp only[go_sem]
 (first | refine zd ?_ | refine ze ?_ (by rfl))<;>(simp only[go_sem]<;>try rfl)
def VJ (a b:zF):Bool:=rok a && rok b && decide (wr (a.1*b.2)<wr (b.1*a.2))
theorem c20 (a b:zF) (d:qj a) (f:qj b):ji Tryz.prog 120 [rat a,rat b] (bl (VJ a b)):=λh=>by
 refine zf Tryz.f120 [.tmp 4] 24 rfl rfl rfl rfl rfl rfl (by decide) (⟨_,_,⟨rfl,rfl⟩,.refl⟩) λB=>?_
 simp only[go_sem]
 refine zc (c27 a d.1 d.2 _) ?_
 rintro _ _ ⟨rfl,rfl⟩
 simp only[go_sem]
 refine ways (λe=>?_) (λe=>?_)
 ·have e:=jr e
  simp only[go_sem,e]
  refine zc (c27 b f.1 f.2 _) ?_
  rintro _ _ ⟨rfl,rfl⟩
  simp only[go_sem,e]
  refine ways (λc=>?_) (λc=>?_)
  ·have c:=jr c
   simp only[go_sem,e,c]
   (first | refine zd ?_ | refine ze ?_ (by rfl))<;>(simp only[go_sem,VJ,e,c]<;>try rfl)
  ·have c:=jq c
   simp only[go_sem,e,c]
   (first | refine zd ?_ | refine ze ?_ (by rfl))<;>(simp only[go_sem,VJ,e,c]<;>try rfl)
 ·have e:=jq e
  simp only[go_sem,e]
  (first | refine zd ?_ | refine ze ?_ (by rfl))<;>(simp only[go_sem,VJ,e]<;>try rfl)
set_option maxRecDepth 100000
attribute [go_sem] yoa
theorem jk {k:Nat} (h:k<9223372036854775807):wr ((k:Int)+1)=((k+1:Nat):Int):=by rw[zI (by unfold Fit;omega)];rfl
def qz (p:zF):List AV:=[i64 p.1,i64 p.2]
theorem yJ (n d:Int):qj (make n d).1:=by
 unfold make qj
 split
 ·exact ⟨⟨by decide,by decide⟩,⟨by decide,by decide⟩⟩
 ·split
  ·exact ⟨⟨by decide,by decide⟩,⟨by decide,by decide⟩⟩
  ·split
   ·exact ⟨⟨by decide,by decide⟩,⟨by decide,by decide⟩⟩
   ·exact ⟨kI _,kI _⟩
theorem J6 (v:zF->zF->Int × Int) (a b:zF):qj (w8 v a b).1:=by
 unfold w8
 split
 ·exact yJ _ _
 ·exact ⟨⟨by decide,by decide⟩,⟨by decide,by decide⟩⟩
def W4:zF->List zF->zF × Int
 | out,[]=>(out,0)
 | out,r::l=>if (w8 wca out r).2≠0 then ((0,0),(w8 wca out r).2) else W4 (w8 wca out r).1 l
def wI (l:List zF):zF × Int:=if l.all rok then W4 (0,1) l else ((0,0),20)
theorem c23 (h:List Ob) (x:AV) (l:List zF) (y:∀p∈l,qj p) (E:l.length<1099511627776) (w:SlOf h x 2 (l.map qz)):
  ACalls Tryz.prog 114 [x] h λr h'=>r=J5 (wI l)/\h'=h:=by
 refine zf Tryz.f114 [.cell 2 24,.tmp 3] 38 rfl rfl rfl rfl rfl rfl (by decide) (⟨_,_,⟨rfl,rfl⟩,.refl⟩) λB=>?_
 simp only[go_sem]
 refine zc (c52 _) ?_
 rintro _ D ⟨rfl,f⟩
 subst f
 have F:∀L,zq (h++L) x=some (l.map qz):=λL=>(w.app L).rows
 simp only[go_sem,F,List.length_map]
 refine zj (by decide) (λn T h'=>∃(k:Nat) (L:List Ob),h'=h++(Ob.box 24 [i64 0,i64 1]::L)/\T 0=x/\T 2= .ptr h.length 0/\T 9=x/\T 10=i64 l.length/\T 11=i64 k/\k<=l.length/\(l.take k).all rok=true/\n=l.length - k) l.length
  ⟨0,[],rfl,by simp only[go_sem],by simp only[go_sem],by simp only[go_sem],by simp only[go_sem],by (simp only[go_sem]<;>rfl),by omega,rfl,rfl⟩ ?_
 rintro n T h' ⟨k,L,e,t0,t2,t9,t10,g,C,b,rfl⟩
 have m:SlOf h' x 2 (l.map qz):=by subst e;exact w.app _
 simp only[go_sem,t9,t10,g]
 refine ways (λf=>?_) (λf=>?_)
 ·have a:k<l.length:=by simpa using f
  have v:=m.at (i:=k) (by simpa using a)
  have z:(l.map qz)[k]? =some (qz l[k]):=by simp[a]
  have q:(k:Int)<l.length:=by omega
  simp only[go_sem,v,m.rows,z,q,t9,t10,g,Int.toNat_natCast,Int.natCast_nonneg,List.length_map,qz]
  refine zc (c27 l[k] (y _ (List.getElem_mem a)).1 (y _ (List.getElem_mem a)).2 _) ?_
  rintro _ D ⟨rfl,A⟩
  subst A
  simp only[go_sem]
  refine ways (λc=>?_) (λc=>?_)
  ·simp only[Bool.not_eq_true'] at c
   have t:∀M,(h'++M)[h.length]? =some (Ob.box 24 [i64 0,i64 1]):=λM=>by subst e;simp only[go_sem]
   simp only[go_sem,t2,t]
   subst e
   simp only[go_sem]
   have E:l.all rok=false:=by
    rw[List.all_eq_false]
    exact ⟨l[k],List.getElem_mem a,by simp[c]⟩
   (first | refine zd ?_ | refine ze ?_ (by rfl))<;>(simp only[go_sem,t2,wI,E]<;>try rfl)
  ·simp only[Bool.not_eq_false'] at c
   simp only[go_sem,g,jk (show k<9223372036854775807 by omega)]
   refine ⟨l.length - (k+1),by omega,k+1,L++[Ob.box 24 [i64 l[k].1,i64 l[k].2]],by rw[e];simp,t0,t2,t9,t10,rfl,by omega,?_,rfl⟩
   rw[List.take_add_one,List.getElem?_eq_getElem a,List.all_append,b]
   simp only[Option.toList_some,List.all_cons,List.all_nil,c,Bool.and_self]
 ·have a:k=l.length:=by
   have:¬ (k:Int)<l.length:=by simpa using f
   omega
  have d:l.all rok=true:=by rw[a,List.take_length] at b;exact b
  simp only[go_sem,t0,m.rows,List.length_map]
  refine zj (by decide) (λn T h'=>∃(k:Nat) (out:zF) (L:List Ob),h'=h++(Ob.box 24 [i64 out.1,i64 out.2]::L)/\qj out/\T 2= .ptr h.length 0/\T 20=x/\T 21=i64 l.length/\T 22=i64 k/\k<=l.length/\W4 (0,1) l=W4 out (l.drop k)/\n=l.length - k) l.length
   ⟨0,(0,1),L,e,⟨⟨by decide,by decide⟩,⟨by decide,by decide⟩⟩,by simp only[go_sem,t2],by simp only[go_sem],by simp only[go_sem],by (simp only[go_sem]<;>rfl),by omega,rfl,rfl⟩ ?_
  clear m t0 t2 t9 t10 g C a f e b
  clear k L h' T
  rintro n T h' ⟨k,out,L,e,u,t2,j,o,t22,C,s,rfl⟩
  have m:SlOf h' x 2 (l.map qz):=by subst e;exact w.app _
  simp only[go_sem,j,o,t22]
  refine ways (λf=>?_) (λf=>?_)
  ·have a:k<l.length:=by simpa using f
   have v:=m.at (i:=k) (by simpa using a)
   have z:(l.map qz)[k]? =some (qz l[k]):=by simp[a]
   have q:(k:Int)<l.length:=by omega
   have t:∀M,(h'++M)[h.length]? =some (Ob.box 24 [i64 out.1,i64 out.2]):=λM=>by subst e;simp only[go_sem]
   simp only[go_sem,v,m.rows,z,q,t2,t,j,o,t22,Int.toNat_natCast,Int.natCast_nonneg,List.length_map,qz]
   refine zc (c63 out l[k] u (y _ (List.getElem_mem a)) _) ?_
   rintro _ D ⟨rfl,A⟩
   subst A
   simp only[go_sem,t2,t]
   refine ways (λc=>?_) (λc=>?_)
   ·simp only[bne_iff_ne,ne_eq] at c
    subst e
    simp only[go_sem,t2]
    rw[List.drop_eq_getElem_cons a] at s
    (first | refine zd ?_ | refine ze ?_ (by rfl))<;>(simp only[go_sem,t2,wI,d,s,W4,c]<;>try rfl)
   ·simp only[bne_eq_false_iff_eq] at c
    simp only[go_sem,t22,jk (show k<9223372036854775807 by omega)]
    subst e
    refine ⟨l.length - (k+1),by omega,k+1,(w8 wca out l[k]).1,L++[Ob.box 24 [i64 l[k].1,i64 l[k].2]],by simp only[go_sem],J6 _ _ _,t2,j,o,rfl,by omega,?_,rfl⟩
    rw[s,List.drop_eq_getElem_cons a]
    simp[W4,c]
  ·have a:k=l.length:=by
    have:¬ (k:Int)<l.length:=by simpa using f
    omega
   rw[a,List.drop_length] at s
   subst e
   simp only[go_sem,t2]
   (first | refine zd ?_ | refine ze ?_ (by rfl))<;>(simp only[go_sem,t2,wI,d,s,W4]<;>try rfl)
set_option maxRecDepth 100000
attribute [go_sem] QNa QPa vHa QQa QRa QSa yqa ypa yra
def wJ (h:List Ob) (f:FuncId) (cs:List AV) (arg:List AV->AV) (rows:List (List AV)) (p:List AV->Bool):Prop:=
 ∀row∈rows,∀L,ACalls Tryz.prog f ([arg row]++cs) (h++L) λr h'=>r=bl (p row)/\h'=h++L
def Z4 (rows:List (List AV)) (p:List AV->Bool):Int:=match rows.findIdx? p with
 | some i=>(i:Int)
 | none=> -1
theorem kY {rows:List (List AV)} {p:List AV->Bool} {k:Nat} (c:k<rows.length) (h0:∀j (a:j<k),p (rows[j]'(by omega))=false) (b:p rows[k]=true):Z4 rows p=k:=by
 unfold Z4
 rw[List.findIdx?_eq_some_iff_getElem.2 ⟨c,b,λj a=>by simp[h0 j a]⟩]
theorem vt {rows:List (List AV)} {p:List AV->Bool} (h0:∀j (a:j<rows.length),p rows[j]=false):Z4 rows p= -1:=by
 unfold Z4
 rw[List.findIdx?_eq_none_iff.2 λx b=>by obtain ⟨j,a,e⟩:=List.getElem_of_mem b;rw[<-e];exact h0 j a]
theorem vP (rows:List (List AV)) (p:List AV->Bool):decide (Z4 rows p≥0)=rows.any p:=by
 unfold Z4
 cases h:rows.findIdx? p with
 | some i=>
   obtain ⟨c,a,_⟩:=List.findIdx?_eq_some_iff_getElem.1 h
   have:rows.any p=true:=List.any_eq_true.2 ⟨_,List.getElem_mem c,a⟩
   rw[this]
   simp
 | none=>
   have:=List.findIdx?_eq_none_iff.1 h
   have:rows.any p=false:=List.any_eq_false.2 λx b=>by simp[this x b]
   rw[this]
   simp
abbrev agA (row:List AV):AV:= .ag row
abbrev Jga (row:List AV):AV:=nth row 0
theorem Wda (h:List Ob) (x:AV) (f:FuncId) (cs:List AV) (rows:List (List AV)) (p:List AV->Bool) (C:rows.length<9223372036854775808) (t:∀r∈rows,r.length=1) (m:SlOf h x 1 rows) (w:wJ h f cs Jga rows p):
  ACalls Tryz.prog 205 [x,.fn (.func f) [] cs] h λr h'=>r=i64 (Z4 rows p)/\h'=h:=by
 refine zf Tryz.f205 [.tmp 4] 19 rfl rfl rfl rfl rfl rfl (by decide) (⟨_,_,⟨rfl,rfl⟩,.refl⟩) λB=>?_
 simp only[go_sem,m.rows]
 refine zj (by decide) (λn T h'=>h'=h/\∃k:Nat,T 0=x/\T 1= .fn (.func f) [] cs/\T 7=i64 rows.length/\T 8=i64 k/\k<=rows.length/\(∀j (e:j<rows.length),j<k->p rows[j]=false)/\n=rows.length - k) rows.length
  ⟨rfl,0,by simp only[go_sem],by simp only[go_sem],by simp only[go_sem],by (simp only[go_sem]<;>rfl),by omega,λ_ _ h=>by omega,rfl⟩ ?_
 rintro n T h' ⟨rfl,k,t0,t1,l,t8,z,h0,rfl⟩
 simp only[go_sem,l,t8]
 refine ways (λo=>?_) (λo=>?_)
 ·have a:k<rows.length:=by simpa using o
  have q:=m.at a
  have b:rows[k]? =some rows[k]:=List.getElem?_eq_getElem a
  have s:(k:Int)<rows.length:=by omega
  have y:=t rows[k] (List.getElem_mem a)
  obtain ⟨a0,d⟩:∃a0,rows[k]=[a0]:=by
   match hr:rows[k],y with
   | [a0],_=>exact ⟨_,rfl⟩
  have c:=w rows[k] (List.getElem_mem a) []
  rw[d] at b c
  simp only[List.append_nil,List.cons_append,List.nil_append,Jga,nth] at c
  simp only[go_sem,q,m.rows,b,s,t0,t1,l,t8,Int.toNat_natCast,Int.natCast_nonneg]
  refine zc c ?_
  rintro _ A ⟨rfl,v⟩
  subst v
  simp only[go_sem]
  refine ways (λg=>?_) (λg=>?_)
  ·simp only[go_sem,t8]
   rw[<-d] at g
   (first | refine zd ?_ | refine ze ?_ (by rfl))<;>(simp only[go_sem,t8,kY a (λj e=>h0 j (by omega) e) g]<;>try rfl)
  ·simp only[go_sem,t8,jk (show k<9223372036854775807 by omega)]
   rw[<-d] at g
   refine ⟨rows.length - (k+1),by omega,k+1,t0,t1,l,rfl,by omega,λj e u=>?_,rfl⟩
   rcases Nat.lt_or_ge j k with i | i
   ·exact h0 j e i
   ·have:j=k:=by omega
    subst this
    exact g
 ·have a:k=rows.length:=by
   have:¬ (k:Int)<rows.length:=by simpa using o
   omega
  simp only[go_sem]
  (first | refine zd ?_ | refine ze ?_ (by rfl))<;>(simp only[go_sem,vt λj e=>h0 j e (by omega)]<;>try rfl)
theorem c98 (h:List Ob) (x:AV) (f:FuncId) (cs:List AV) (rows:List (List AV)) (p:List AV->Bool) (c:rows.length<9223372036854775808) (a:∀r∈rows,r.length=1) (b:SlOf h x 1 rows) (d:wJ h f cs Jga rows p):
  ACalls Tryz.prog 192 [x,.fn (.func f) [] cs] h λr h'=>r=bl (rows.any p)/\h'=h:=by
 refine zf Tryz.f192 [.tmp 4] 9 rfl rfl rfl rfl rfl rfl (by decide) (⟨_,_,⟨rfl,rfl⟩,.refl⟩) λB=>?_
 simp only[go_sem]
 refine zc (Wda h x f cs rows p c a b d) ?_
 rintro _ g ⟨rfl,e⟩
 subst e
 simp only[go_sem,vP]
 (first | refine zd ?_ | refine ze ?_ (by rfl))<;>(simp only[go_sem,vP]<;>try rfl)
theorem YMa (h:List Ob) (x:AV) (f:FuncId) (cs:List AV) (rows:List (List AV)) (p:List AV->Bool) (C:rows.length<9223372036854775808) (t:∀r∈rows,r.length=2) (m:SlOf h x 2 rows) (w:wJ h f cs agA rows p):
  ACalls Tryz.prog 237 [x,.fn (.func f) [] cs] h λr h'=>r=i64 (Z4 rows p)/\h'=h:=by
 refine zf Tryz.f237 [.tmp 4] 19 rfl rfl rfl rfl rfl rfl (by decide) (⟨_,_,⟨rfl,rfl⟩,.refl⟩) λB=>?_
 simp only[go_sem,m.rows]
 refine zj (by decide) (λn T h'=>h'=h/\∃k:Nat,T 0=x/\T 1= .fn (.func f) [] cs/\T 7=i64 rows.length/\T 8=i64 k/\k<=rows.length/\(∀j (e:j<rows.length),j<k->p rows[j]=false)/\n=rows.length - k) rows.length
  ⟨rfl,0,by simp only[go_sem],by simp only[go_sem],by simp only[go_sem],by (simp only[go_sem]<;>rfl),by omega,λ_ _ h=>by omega,rfl⟩ ?_
 rintro n T h' ⟨rfl,k,t0,t1,l,t8,z,h0,rfl⟩
 simp only[go_sem,l,t8]
 refine ways (λo=>?_) (λo=>?_)
 ·have a:k<rows.length:=by simpa using o
  have q:=m.at a
  have b:rows[k]? =some rows[k]:=List.getElem?_eq_getElem a
  have s:(k:Int)<rows.length:=by omega
  have y:=t rows[k] (List.getElem_mem a)
  obtain ⟨a0,a1,d⟩:∃a0 a1,rows[k]=[a0,a1]:=by
   match hr:rows[k],y with
   | [a0,a1],_=>exact ⟨_,_,rfl⟩
  have c:=w rows[k] (List.getElem_mem a) []
  rw[d] at b c
  simp only[List.append_nil,List.cons_append,List.nil_append,agA,nth] at c
  simp only[go_sem,q,m.rows,b,s,t0,t1,l,t8,Int.toNat_natCast,Int.natCast_nonneg]
  refine zc c ?_
  rintro _ A ⟨rfl,v⟩
  subst v
  simp only[go_sem]
  refine ways (λg=>?_) (λg=>?_)
  ·simp only[go_sem,t8]
   rw[<-d] at g
   (first | refine zd ?_ | refine ze ?_ (by rfl))<;>(simp only[go_sem,t8,kY a (λj e=>h0 j (by omega) e) g]<;>try rfl)
  ·simp only[go_sem,t8,jk (show k<9223372036854775807 by omega)]
   rw[<-d] at g
   refine ⟨rows.length - (k+1),by omega,k+1,t0,t1,l,rfl,by omega,λj e u=>?_,rfl⟩
   rcases Nat.lt_or_ge j k with i | i
   ·exact h0 j e i
   ·have:j=k:=by omega
    subst this
    exact g
 ·have a:k=rows.length:=by
   have:¬ (k:Int)<rows.length:=by simpa using o
   omega
  simp only[go_sem]
  (first | refine zd ?_ | refine ze ?_ (by rfl))<;>(simp only[go_sem,vt λj e=>h0 j e (by omega)]<;>try rfl)
theorem YNa (h:List Ob) (x:AV) (f:FuncId) (cs:List AV) (rows:List (List AV)) (p:List AV->Bool) (c:rows.length<9223372036854775808) (a:∀r∈rows,r.length=2) (b:SlOf h x 2 rows) (d:wJ h f cs agA rows p):
  ACalls Tryz.prog 195 [x,.fn (.func f) [] cs] h λr h'=>r=bl (rows.any p)/\h'=h:=by
 refine zf Tryz.f195 [.tmp 4] 9 rfl rfl rfl rfl rfl rfl (by decide) (⟨_,_,⟨rfl,rfl⟩,.refl⟩) λB=>?_
 simp only[go_sem]
 refine zc (YMa h x f cs rows p c a b d) ?_
 rintro _ g ⟨rfl,e⟩
 subst e
 simp only[go_sem,vP]
 (first | refine zd ?_ | refine ze ?_ (by rfl))<;>(simp only[go_sem,vP]<;>try rfl)
theorem YOa (h:List Ob) (x:AV) (f:FuncId) (cs:List AV) (rows:List (List AV)) (p:List AV->Bool) (C:rows.length<9223372036854775808) (t:∀r∈rows,r.length=3) (m:SlOf h x 3 rows) (w:wJ h f cs agA rows p):
  ACalls Tryz.prog 194 [x,.fn (.func f) [] cs] h λr h'=>r=i64 (Z4 rows p)/\h'=h:=by
 refine zf Tryz.f194 [.tmp 4] 19 rfl rfl rfl rfl rfl rfl (by decide) (⟨_,_,⟨rfl,rfl⟩,.refl⟩) λB=>?_
 simp only[go_sem,m.rows]
 refine zj (by decide) (λn T h'=>h'=h/\∃k:Nat,T 0=x/\T 1= .fn (.func f) [] cs/\T 7=i64 rows.length/\T 8=i64 k/\k<=rows.length/\(∀j (e:j<rows.length),j<k->p rows[j]=false)/\n=rows.length - k) rows.length
  ⟨rfl,0,by simp only[go_sem],by simp only[go_sem],by simp only[go_sem],by (simp only[go_sem]<;>rfl),by omega,λ_ _ h=>by omega,rfl⟩ ?_
 rintro n T h' ⟨rfl,k,t0,t1,l,t8,z,h0,rfl⟩
 simp only[go_sem,l,t8]
 refine ways (λo=>?_) (λo=>?_)
 ·have a:k<rows.length:=by simpa using o
  have q:=m.at a
  have b:rows[k]? =some rows[k]:=List.getElem?_eq_getElem a
  have s:(k:Int)<rows.length:=by omega
  have y:=t rows[k] (List.getElem_mem a)
  obtain ⟨a0,a1,a2,d⟩:∃a0 a1 a2,rows[k]=[a0,a1,a2]:=by
   match hr:rows[k],y with
   | [a0,a1,a2],_=>exact ⟨_,_,_,rfl⟩
  have c:=w rows[k] (List.getElem_mem a) []
  rw[d] at b c
  simp only[List.append_nil,List.cons_append,List.nil_append,agA,nth] at c
  simp only[go_sem,q,m.rows,b,s,t0,t1,l,t8,Int.toNat_natCast,Int.natCast_nonneg]
  refine zc c ?_
  rintro _ A ⟨rfl,v⟩
  subst v
  simp only[go_sem]
  refine ways (λg=>?_) (λg=>?_)
  ·simp only[go_sem,t8]
   rw[<-d] at g
   (first | refine zd ?_ | refine ze ?_ (by rfl))<;>(simp only[go_sem,t8,kY a (λj e=>h0 j (by omega) e) g]<;>try rfl)
  ·simp only[go_sem,t8,jk (show k<9223372036854775807 by omega)]
   rw[<-d] at g
   refine ⟨rows.length - (k+1),by omega,k+1,t0,t1,l,rfl,by omega,λj e u=>?_,rfl⟩
   rcases Nat.lt_or_ge j k with i | i
   ·exact h0 j e i
   ·have:j=k:=by omega
    subst this
    exact g
 ·have a:k=rows.length:=by
   have:¬ (k:Int)<rows.length:=by simpa using o
   omega
  simp only[go_sem]
  (first | refine zd ?_ | refine ze ?_ (by rfl))<;>(simp only[go_sem,vt λj e=>h0 j e (by omega)]<;>try rfl)
theorem c78 (h:List Ob) (x:AV) (f:FuncId) (cs:List AV) (rows:List (List AV)) (p:List AV->Bool) (c:rows.length<9223372036854775808) (a:∀r∈rows,r.length=3) (b:SlOf h x 3 rows) (d:wJ h f cs agA rows p):
  ACalls Tryz.prog 129 [x,.fn (.func f) [] cs] h λr h'=>r=bl (rows.any p)/\h'=h:=by
 refine zf Tryz.f129 [.tmp 4] 9 rfl rfl rfl rfl rfl rfl (by decide) (⟨_,_,⟨rfl,rfl⟩,.refl⟩) λB=>?_
 simp only[go_sem]
 refine zc (YOa h x f cs rows p c a b d) ?_
 rintro _ g ⟨rfl,e⟩
 subst e
 simp only[go_sem,vP]
 (first | refine zd ?_ | refine ze ?_ (by rfl))<;>(simp only[go_sem,vP]<;>try rfl)
theorem YPa (h:List Ob) (x:AV) (f:FuncId) (cs:List AV) (rows:List (List AV)) (p:List AV->Bool) (C:rows.length<9223372036854775808) (t:∀r∈rows,r.length=4) (m:SlOf h x 4 rows) (w:wJ h f cs agA rows p):
  ACalls Tryz.prog 197 [x,.fn (.func f) [] cs] h λr h'=>r=i64 (Z4 rows p)/\h'=h:=by
 refine zf Tryz.f197 [.tmp 4] 19 rfl rfl rfl rfl rfl rfl (by decide) (⟨_,_,⟨rfl,rfl⟩,.refl⟩) λB=>?_
 simp only[go_sem,m.rows]
 refine zj (by decide) (λn T h'=>h'=h/\∃k:Nat,T 0=x/\T 1= .fn (.func f) [] cs/\T 7=i64 rows.length/\T 8=i64 k/\k<=rows.length/\(∀j (e:j<rows.length),j<k->p rows[j]=false)/\n=rows.length - k) rows.length
  ⟨rfl,0,by simp only[go_sem],by simp only[go_sem],by simp only[go_sem],by (simp only[go_sem]<;>rfl),by omega,λ_ _ h=>by omega,rfl⟩ ?_
 rintro n T h' ⟨rfl,k,t0,t1,l,t8,z,h0,rfl⟩
 simp only[go_sem,l,t8]
 refine ways (λo=>?_) (λo=>?_)
 ·have a:k<rows.length:=by simpa using o
  have q:=m.at a
  have b:rows[k]? =some rows[k]:=List.getElem?_eq_getElem a
  have s:(k:Int)<rows.length:=by omega
  have y:=t rows[k] (List.getElem_mem a)
  obtain ⟨a0,a1,a2,a3,d⟩:∃a0 a1 a2 a3,rows[k]=[a0,a1,a2,a3]:=by
   match hr:rows[k],y with
   | [a0,a1,a2,a3],_=>exact ⟨_,_,_,_,rfl⟩
  have c:=w rows[k] (List.getElem_mem a) []
  rw[d] at b c
  simp only[List.append_nil,List.cons_append,List.nil_append,agA,nth] at c
  simp only[go_sem,q,m.rows,b,s,t0,t1,l,t8,Int.toNat_natCast,Int.natCast_nonneg]
  refine zc c ?_
  rintro _ A ⟨rfl,v⟩
  subst v
  simp only[go_sem]
  refine ways (λg=>?_) (λg=>?_)
  ·simp only[go_sem,t8]
   rw[<-d] at g
   (first | refine zd ?_ | refine ze ?_ (by rfl))<;>(simp only[go_sem,t8,kY a (λj e=>h0 j (by omega) e) g]<;>try rfl)
  ·simp only[go_sem,t8,jk (show k<9223372036854775807 by omega)]
   rw[<-d] at g
   refine ⟨rows.length - (k+1),by omega,k+1,t0,t1,l,rfl,by omega,λj e u=>?_,rfl⟩
   rcases Nat.lt_or_ge j k with i | i
   ·exact h0 j e i
   ·have:j=k:=by omega
    subst this
    exact g
 ·have a:k=rows.length:=by
   have:¬ (k:Int)<rows.length:=by simpa using o
   omega
  simp only[go_sem]
  (first | refine zd ?_ | refine ze ?_ (by rfl))<;>(simp only[go_sem,vt λj e=>h0 j e (by omega)]<;>try rfl)
theorem c81 (h:List Ob) (x:AV) (f:FuncId) (cs:List AV) (rows:List (List AV)) (p:List AV->Bool) (c:rows.length<9223372036854775808) (a:∀r∈rows,r.length=4) (b:SlOf h x 4 rows) (d:wJ h f cs agA rows p):
  ACalls Tryz.prog 132 [x,.fn (.func f) [] cs] h λr h'=>r=bl (rows.any p)/\h'=h:=by
 refine zf Tryz.f132 [.tmp 4] 9 rfl rfl rfl rfl rfl rfl (by decide) (⟨_,_,⟨rfl,rfl⟩,.refl⟩) λB=>?_
 simp only[go_sem]
 refine zc (YPa h x f cs rows p c a b d) ?_
 rintro _ g ⟨rfl,e⟩
 subst e
 simp only[go_sem,vP]
 (first | refine zd ?_ | refine ze ?_ (by rfl))<;>(simp only[go_sem,vP]<;>try rfl)
theorem c42 (h:List Ob) (x:AV) (f:FuncId) (cs:List AV) (rows:List (List AV)) (p:List AV->Bool) (G:rows.length<9223372036854775808) (y:∀r∈rows,r.length=11) (s:SlOf h x 11 rows) (C:wJ h f cs agA rows p):
  ACalls Tryz.prog 56 [x,.fn (.func f) [] cs] h λr h'=>r=i64 (Z4 rows p)/\h'=h:=by
 refine zf Tryz.f56 [.tmp 4] 19 rfl rfl rfl rfl rfl rfl (by decide) (⟨_,_,⟨rfl,rfl⟩,.refl⟩) λB=>?_
 simp only[go_sem,s.rows]
 refine zj (by decide) (λn T h'=>h'=h/\∃k:Nat,T 0=x/\T 1= .fn (.func f) [] cs/\T 7=i64 rows.length/\T 8=i64 k/\k<=rows.length/\(∀j (g:j<rows.length),j<k->p rows[j]=false)/\n=rows.length - k) rows.length
  ⟨rfl,0,by simp only[go_sem],by simp only[go_sem],by simp only[go_sem],by (simp only[go_sem]<;>rfl),by omega,λ_ _ h=>by omega,rfl⟩ ?_
 rintro n T h' ⟨rfl,k,t0,t1,q,t8,E,h0,rfl⟩
 simp only[go_sem,q,t8]
 refine ways (λt=>?_) (λt=>?_)
 ·have a:k<rows.length:=by simpa using t
  have u:=s.at a
  have b:rows[k]? =some rows[k]:=List.getElem?_eq_getElem a
  have v:(k:Int)<rows.length:=by omega
  have D:=y rows[k] (List.getElem_mem a)
  obtain ⟨a0,a1,a2,a3,a4,a5,m,w,o,a9,c,e⟩:∃a0 a1 a2 a3 a4 a5 m w o a9 c,rows[k]=[a0,a1,a2,a3,a4,a5,m,w,o,a9,c]:=by
   match hr:rows[k],D with
   | [a0,a1,a2,a3,a4,a5,m,w,o,a9,c],_=>exact ⟨_,_,_,_,_,_,_,_,_,_,_,rfl⟩
  have d:=C rows[k] (List.getElem_mem a) []
  rw[e] at b d
  simp only[List.append_nil,List.cons_append,List.nil_append,agA,nth] at d
  simp only[go_sem,u,s.rows,b,v,t0,t1,q,t8,Int.toNat_natCast,Int.natCast_nonneg]
  refine zc d ?_
  rintro _ F ⟨rfl,A⟩
  subst A
  simp only[go_sem]
  refine ways (λi=>?_) (λi=>?_)
  ·simp only[go_sem,t8]
   rw[<-e] at i
   (first | refine zd ?_ | refine ze ?_ (by rfl))<;>(simp only[go_sem,t8,kY a (λj g=>h0 j (by omega) g) i]<;>try rfl)
  ·simp only[go_sem,t8,jk (show k<9223372036854775807 by omega)]
   rw[<-e] at i
   refine ⟨rows.length - (k+1),by omega,k+1,t0,t1,q,rfl,by omega,λj g z=>?_,rfl⟩
   rcases Nat.lt_or_ge j k with l | l
   ·exact h0 j g l
   ·have:j=k:=by omega
    subst this
    exact i
 ·have a:k=rows.length:=by
   have:¬ (k:Int)<rows.length:=by simpa using t
   omega
  simp only[go_sem]
  (first | refine zd ?_ | refine ze ?_ (by rfl))<;>(simp only[go_sem,vt λj g=>h0 j g (by omega)]<;>try rfl)
end Go.Proofs.YtfmldcilgbbimaaGreat.Ax
