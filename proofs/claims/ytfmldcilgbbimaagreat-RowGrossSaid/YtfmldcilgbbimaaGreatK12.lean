/-
  Joined.
-/
import Derived.Test.YtfmldcilgbbimaaGreatK11
import Derived.Test.YtfmldcilgbbimaaGreatK10
import Derived.IntWalk
set_option linter.unusedSimpArgs false
set_option linter.unusedVariables false
namespace Go.Proofs.YtfmldcilgbbimaaGreat.Ax
open Go Go.Proofs
set_option maxRecDepth 100000
attribute [go_sem] ty3 ty4 vJa yDa yEa
abbrev i64 (n:Int):AV:= .v (.int .i64 n)
abbrev bl (b:Bool):AV:= .v (.bool b)
abbrev yma (n d:Int):AV:= .ag [i64 n,i64 d]
abbrev wr (n:Int):Int:=IntKind.wrap .i64 n
theorem c52:qX Tryz.prog 184 [] (yma 0 1):=λh=>by
 refine zf Tryz.f184 [.cell 0 24] 2 rfl rfl rfl rfl rfl rfl (by decide) (⟨_,_,⟨rfl,rfl⟩,.refl⟩) λB=>?_
 simp only[go_sem]
 (first | refine zc ?_ | refine ze ?_ (by rfl))<;>(simp only[go_sem]<;>try rfl)
def yG (n:Int):Int:=if n= -9223372036854775808 then 4611686018427387904 else if n<0 then wr (0 - n) else n
theorem c84 (n:Int):qX Tryz.prog 236 [i64 n] (i64 (yG n)):=λh=>by
 refine zf Tryz.f236 [.tmp 2] 12 rfl rfl rfl rfl rfl rfl (by decide) (⟨_,_,⟨rfl,rfl⟩,.refl⟩) λB=>?_
 simp only[go_sem]
 refine ways (λe=>?_) (λe=>?_)
 ·simp only[beq_iff_eq] at e
  (first | refine zc ?_ | refine ze ?_ (by rfl))<;>(simp only[go_sem,yG,e]<;>try rfl)
 ·simp only[beq_eq_false_iff_ne,ne_eq] at e
  simp only[go_sem]
  refine ways (λa=>?_) (λa=>?_)
  ·simp only[decide_eq_true_eq] at a
   simp only[go_sem]
   (first | refine zc ?_ | refine ze ?_ (by rfl))<;>(simp only[go_sem,yG,e,a]<;>try rfl)
  ·simp only[decide_eq_false_iff_not] at a
   simp only[go_sem]
   (first | refine zc ?_ | refine ze ?_ (by rfl))<;>(simp only[go_sem,yG,e,a]<;>try rfl)
def Fit (n:Int):Prop:= -9223372036854775808<=n/\n<=9223372036854775807
theorem zt {n:Int} (h:Fit n):wr n=n:=Go.IntWalk.i64_in n h
theorem qla {n:Int} (h:Fit n):0<=yG n:=by
 unfold yG
 split
 ·omega
 ·split
  ·rw[zt (by unfold Fit at *; omega)];omega
  ·omega
def JG (a b:Int):Int:=(Nat.gcd (yG a).toNat (yG b).toNat:Int)
theorem c53 (a b:Int) (i:Fit a) (g:Fit b):qX Tryz.prog 186 [i64 a,i64 b] (i64 (JG a b)):=λh=>by
 refine zf Tryz.f186 [.tmp 4] 16 rfl rfl rfl rfl rfl rfl (by decide) (⟨_,_,⟨rfl,rfl⟩,.refl⟩) λB=>?_
 simp only[go_sem]
 refine zd (c84 a h) ?_
 rintro _ _ ⟨rfl,rfl⟩
 simp only[go_sem]
 refine zd (c84 b _) ?_
 rintro _ _ ⟨rfl,rfl⟩
 simp only[go_sem]
 rename_i h
 refine zk (by decide) (λn T h'=>h'=h/\∃x y:Nat,T 0=i64 x/\T 1=i64 y/\Nat.gcd x y=Nat.gcd (yG a).toNat (yG b).toNat/\y=n) _ ⟨rfl,(yG a).toNat,(yG b).toNat,?_,?_,rfl,rfl⟩ ?_
 ·simp only[go_sem,Int.toNat_of_nonneg (qla i)]
 ·simp only[go_sem,Int.toNat_of_nonneg (qla g)]
 rintro n T h ⟨rfl,x,y,h0,f,c,rfl⟩
 simp only[go_sem,h0,f]
 refine ways (λe=>?_) (λe=>?_)
 ·simp only[go_sem]
  have hyp:0<y:=by simpa using e
  have d:¬ (y:Int)=0:=by omega
  refine zp rfl [] 0 [(0,0,[]),(1,0,[]),(2,0,[]),(3,0,[]),(4,0,[]),(5,0,[])] rfl (by decide) (by decide) ?_
  simp only[go_sem,h0,f,d]
  refine ⟨x % y,Nat.mod_lt _ hyp,y,x % y,rfl,by rw[Int.ofNat_tmod],?_,rfl⟩
  rw[<-c,Nat.gcd_comm y, <-Nat.gcd_rec,Nat.gcd_comm]
 ·simp only[go_sem]
  have d:y=0:=by simpa using e
  subst d
  rw[Nat.gcd_zero_right] at c
  simp only[go_sem,h0]
  (first | refine zc ?_ | refine ze ?_ (by rfl))<;>(simp only[go_sem,JG,h0,c]<;>try rfl)
theorem kna {a b:Int} (c:Fit b) (h:0<b):0<JG a b:=by
 have:yG b=b:=by
  unfold yG
  split
  ·omega
  ·split<;>omega
 unfold JG
 rw[this]
 have:=Nat.gcd_pos_of_pos_right (yG a).toNat (show 0<b.toNat by omega)
 omega
abbrev zx:=Int × Int
abbrev rat (p:zx):AV:=yma p.1 p.2
def make (n d:Int):zx × Int:=
 if d<=0 then ((0,0),20) else if n=0 then ((0,1),0) else
  if wr (n.tdiv (JG n d))>2147483647∨wr (n.tdiv (JG n d))< -2147483647∨wr (d.tdiv (JG n d))>2147483647 then ((0,0),10) else ((wr (n.tdiv (JG n d)),wr (d.tdiv (JG n d))),0)
abbrev Qi (p:zx × Int):AV:= .tup [rat p.1,i64 p.2]
theorem c18 (n d:Int) (k:Fit n) (i:Fit d):qX Tryz.prog 115 [i64 n,i64 d] (Qi (make n d)):=λh=>by
 refine zf Tryz.f115 [.cell 4 24,.tmp 5] 36 rfl rfl rfl rfl rfl rfl (by decide) (⟨_,_,⟨rfl,rfl⟩,.refl⟩) λB=>?_
 simp only[go_sem]
 refine ways (λe=>?_) (λe=>?_)
 ·simp only[decide_eq_true_eq] at e
  simp only[go_sem]
  (first | refine zc ?_ | refine ze ?_ (by rfl))<;>(simp only[go_sem,make,e]<;>try rfl)
 simp only[decide_eq_false_iff_not] at e
 simp only[go_sem]
 refine ways (λf=>?_) (λf=>?_)
 ·simp only[beq_iff_eq] at f
  simp only[go_sem]
  refine zd (c52 _) ?_
  rintro _ _ ⟨rfl,rfl⟩
  simp only[go_sem]
  (first | refine zc ?_ | refine ze ?_ (by rfl))<;>(simp only[go_sem,make,e,f]<;>try rfl)
 simp only[beq_eq_false_iff_ne,ne_eq] at f
 simp only[go_sem]
 refine zd (c53 n d k i _) ?_
 rintro _ _ ⟨rfl,rfl⟩
 simp only[go_sem]
 refine zp rfl [] 0 [(0,0,[]),(1,0,[]),(2,0,[]),(3,0,[]),(4,0,[]),(5,0,[]),(6,0,[]),(7,0,[])] rfl (by decide) (by decide) ?_
 have j:¬ JG n d=0:=by have:=kna (a:=n) i (by omega);omega
 simp only[go_sem,j]
 refine ways (λb=>?_) (λb=>?_)
 ·have b:=jE b
  simp only[go_sem,b]
  refine ways (λc=>?_) (λc=>?_)
  ·have c:=jE c
   simp only[go_sem,c]
   refine ways (λg=>?_) (λg=>?_)
   ·simp only[go_sem]
    simp only[decide_eq_true_eq,decide_eq_false_iff_not] at b c g
    (first | refine zc ?_ | refine ze ?_ (by rfl))<;>(simp only[go_sem,make,e,f,b,c,g,or_true]<;>try rfl)
   ·simp only[go_sem]
    simp only[decide_eq_true_eq,decide_eq_false_iff_not] at b c g
    (first | refine zc ?_ | refine ze ?_ (by rfl))<;>(simp only[go_sem,make,e,f,b,c,g,or_self]<;>try rfl)
  ·have c:=jD c
   simp only[go_sem,c]
   simp only[decide_eq_true_eq,decide_eq_false_iff_not] at b c
   (first | refine zc ?_ | refine ze ?_ (by rfl))<;>(simp only[go_sem,make,e,f,b,c,true_or,or_true]<;>try rfl)
 ·have b:=jD b
  simp only[go_sem,b]
  simp only[decide_eq_true_eq] at b
  (first | refine zc ?_ | refine ze ?_ (by rfl))<;>(simp only[go_sem,make,e,f,b,true_or]<;>try rfl)
def rok (p:zx):Bool:=(make p.1 p.2).2==0 && ((make p.1 p.2).1.1==p.1 && (make p.1 p.2).1.2==p.2)
theorem c27 (p:zx) (a:Fit p.1) (b:Fit p.2):qX Tryz.prog 119 [rat p] (bl (rok p)):=λh=>by
 refine zf Tryz.f119 [.tmp 2] 20 rfl rfl rfl rfl rfl rfl (by decide) (⟨_,_,⟨rfl,rfl⟩,.refl⟩) λB=>?_
 simp only[go_sem]
 refine zd (c18 p.1 p.2 a b _) ?_
 rintro _ _ ⟨rfl,rfl⟩
 simp only[go_sem]
 refine ways (λe=>?_) (λe=>?_)
 ·have e:=qV e
  simp only[go_sem,e]
  (first | refine zc ?_ | refine ze ?_ (by rfl))<;>(simp only[go_sem,rok,e]<;>try rfl)
 ·have e:=qU e
  simp only[go_sem,e]
  (first | refine zc ?_ | refine ze ?_ (by rfl))<;>(simp only[go_sem,rok,e]<;>try rfl)
theorem xw (n:Int):Fit (wr n):=by
 unfold Fit wr
 rw[IntKind.wrap_i64]
 omega
def zY (p:zx):Prop:=Fit p.1/\Fit p.2
def Two (f:FuncId) (v:zx->zx->Int × Int):Prop:=∀(h:List Ob) (i j:Nat) (a b:zx),h[i]? =some (.box 24 [i64 a.1,i64 a.2])->h[j]? =some (.box 24 [i64 b.1,i64 b.2])->
 ACalls Tryz.prog f [.ptr i 0,.ptr j 0] h λr h'=>r= .tup [i64 (v a b).1,i64 (v a b).2]/\h'=h
theorem c55:Two 188 λa b=>(wr (wr (a.1*b.2) - wr (b.1*a.2)),wr (a.2*b.2)):=λh i j a b c d=>by
 refine zf Tryz.f188 [.tmp 2,.tmp 3] 20 rfl rfl rfl rfl rfl rfl (by decide) (⟨_,_,⟨rfl,rfl⟩,.refl⟩) λB=>?_
 simp only[go_sem]
 refine zp rfl [] 0 [(0,0,[]),(2,0,[]),(5,0,[]),(7,0,[]),(11,0,[]),(13,0,[]),(1,0,[]),(3,0,[]),(4,0,[]),(6,0,[]),(8,0,[]),(9,0,[]),(10,0,[]),(16,0,[]),(12,0,[]),(14,0,[]),(15,0,[]),(17,0,[])] rfl (by decide) (by decide) ?_
 simp only[go_sem,c,d]
 (first | refine zc ?_ | refine ze ?_ (by rfl))<;>(simp only[go_sem]<;>try rfl)
theorem c92:Two 235 λa b=>(wr (wr (a.1*b.2)+wr (b.1*a.2)),wr (a.2*b.2)):=λh i j a b c d=>by
 refine zf Tryz.f235 [.tmp 2,.tmp 3] 20 rfl rfl rfl rfl rfl rfl (by decide) (⟨_,_,⟨rfl,rfl⟩,.refl⟩) λB=>?_
 simp only[go_sem]
 refine zp rfl [] 0 [(0,0,[]),(2,0,[]),(5,0,[]),(7,0,[]),(11,0,[]),(13,0,[]),(1,0,[]),(3,0,[]),(4,0,[]),(6,0,[]),(8,0,[]),(9,0,[]),(10,0,[]),(16,0,[]),(12,0,[]),(14,0,[]),(15,0,[]),(17,0,[])] rfl (by decide) (by decide) ?_
 simp only[go_sem,c,d]
 (first | refine zc ?_ | refine ze ?_ (by rfl))<;>(simp only[go_sem]<;>try rfl)
theorem c64:Two 234 λa b=>(wr (a.1*b.1),wr (a.2*b.2)):=λh i j a b c d=>by
 refine zf Tryz.f234 [.tmp 2,.tmp 3] 14 rfl rfl rfl rfl rfl rfl (by decide) (⟨_,_,⟨rfl,rfl⟩,.refl⟩) λB=>?_
 simp only[go_sem]
 refine zp rfl [] 0 [(0,0,[]),(2,0,[]),(5,0,[]),(7,0,[]),(1,0,[]),(3,0,[]),(4,0,[]),(10,0,[]),(6,0,[]),(8,0,[]),(9,0,[]),(11,0,[])] rfl (by decide) (by decide) ?_
 simp only[go_sem,c,d]
 (first | refine zc ?_ | refine ze ?_ (by rfl))<;>(simp only[go_sem]<;>try rfl)
theorem c75:Two 189 λa b=>(wr (a.1*b.2),wr (a.2*b.1)):=λh i j a b c d=>by
 refine zf Tryz.f189 [.tmp 2,.tmp 3] 14 rfl rfl rfl rfl rfl rfl (by decide) (⟨_,_,⟨rfl,rfl⟩,.refl⟩) λB=>?_
 simp only[go_sem]
 refine zp rfl [] 0 [(0,0,[]),(2,0,[]),(5,0,[]),(7,0,[]),(1,0,[]),(3,0,[]),(4,0,[]),(10,0,[]),(6,0,[]),(8,0,[]),(9,0,[]),(11,0,[])] rfl (by decide) (by decide) ?_
 simp only[go_sem,c,d]
 (first | refine zc ?_ | refine ze ?_ (by rfl))<;>(simp only[go_sem]<;>try rfl)
def vi (v:zx->zx->Int × Int) (a b:zx):zx × Int:=if (rok a && rok b)=true then make (v a b).1 (v a b).2 else ((0,0),20)
theorem c54 (h:List Ob) (a b:zx) (i:zY a) (g:zY b) (f:FuncId) (j:List AV) (n d:Int) (m:Fit n) (k:Fit d) (l:∀L,ACalls Tryz.prog f j (h++L) λr h'=>r= .tup [i64 n,i64 d]/\h'=h++L):
  ACalls Tryz.prog 187 [rat a,rat b,.fn (.func f) [] j] h λr h'=>r=Qi (if (rok a && rok b)=true then make n d else ((0,0),20))/\h'=h:=by
 refine zf Tryz.f187 [.cell 6 24,.tmp 7] 24 rfl rfl rfl rfl rfl rfl (by decide) (⟨_,_,⟨rfl,rfl⟩,.refl⟩) λB=>?_
 simp only[go_sem]
 refine zd (c27 a i.1 i.2 _) ?_
 rintro _ _ ⟨rfl,rfl⟩
 simp only[go_sem]
 refine ways (λe=>?_) (λe=>?_)
 ·have e:=jE e
  simp only[Bool.not_eq_false'] at e
  simp only[go_sem,e]
  refine zd (c27 b g.1 g.2 _) ?_
  rintro _ _ ⟨rfl,rfl⟩
  simp only[go_sem,e]
  refine ways (λc=>?_) (λc=>?_)
  ·simp only[Bool.not_eq_true'] at c
   simp only[go_sem,e,c]
   (first | refine zc ?_ | refine ze ?_ (by rfl))<;>(simp only[go_sem,e,c]<;>try rfl)
  ·simp only[Bool.not_eq_false'] at c
   simp only[go_sem,e,c]
   refine zd (l _) ?_
   rintro _ _ ⟨rfl,rfl⟩
   simp only[go_sem]
   refine zd (c18 n d m k _) ?_
   rintro _ _ ⟨rfl,rfl⟩
   simp only[go_sem]
   (first | refine zc ?_ | refine ze ?_ (by rfl))<;>(simp only[go_sem,e,c]<;>try rfl)
 ·have e:=jD e
  simp only[Bool.not_eq_true'] at e
  simp only[go_sem,e]
  (first | refine zc ?_ | refine ze ?_ (by rfl))<;>(simp only[go_sem,e]<;>try rfl)
theorem v8a {f:FuncId} {v:zx->zx->Int × Int} (e:Two f v) (c:∀a b,Fit (v a b).1/\Fit (v a b).2) {h:List Ob} (a b:zx) (k:zY a) (d:zY b) (i j:Nat) (g:h[i]? =some (.box 24 [i64 a.1,i64 a.2])) (l:h[j]? =some (.box 24 [i64 b.1,i64 b.2])):
  ACalls Tryz.prog 187 [rat a,rat b,.fn (.func f) [] [.ptr i 0,.ptr j 0]] h λr h'=>r=Qi (vi v a b)/\h'=h:=
 c54 h a b k d f _ _ _ (c a b).1 (c a b).2 λL=>e _ i j a b (zb g) (zb l)
abbrev v9a (a b:zx):Int × Int:=(wr (wr (a.1*b.2) - wr (b.1*a.2)),wr (a.2*b.2))
abbrev jAa (a b:zx):Int × Int:=(wr (wr (a.1*b.2)+wr (b.1*a.2)),wr (a.2*b.2))
abbrev VO (a b:zx):Int × Int:=(wr (a.1*b.1),wr (a.2*b.2))
abbrev koa (a b:zx):Int × Int:=(wr (a.1*b.2),wr (a.2*b.1))
theorem c19 (a b:zx) (c:zY a) (d:zY b):qX Tryz.prog 117 [rat a,rat b] (Qi (vi v9a a b)):=λh=>by
 refine zf Tryz.f117 [.cell 4 24,.tmp 5] 12 rfl rfl rfl rfl rfl rfl (by decide) (⟨_,_,⟨rfl,rfl⟩,.refl⟩) λB=>?_
 simp only[go_sem]
 refine zd (v8a (v:=v9a) c55 (λ_ _=>⟨xw _,xw _⟩) a b c d _ _ (by simp only[go_sem]) (by simp only[go_sem])) ?_
 rintro _ _ ⟨rfl,rfl⟩
 simp only[go_sem]
 (first | refine zc ?_ | refine ze ?_ (by rfl))<;>(simp only[go_sem]<;>try rfl)
theorem c63 (a b:zx) (c:zY a) (d:zY b):qX Tryz.prog 185 [rat a,rat b] (Qi (vi jAa a b)):=λh=>by
 refine zf Tryz.f185 [.cell 4 24,.tmp 5] 12 rfl rfl rfl rfl rfl rfl (by decide) (⟨_,_,⟨rfl,rfl⟩,.refl⟩) λB=>?_
 simp only[go_sem]
 refine zd (v8a (v:=jAa) c92 (λ_ _=>⟨xw _,xw _⟩) a b c d _ _ (by simp only[go_sem]) (by simp only[go_sem])) ?_
 rintro _ _ ⟨rfl,rfl⟩
 simp only[go_sem]
 (first | refine zc ?_ | refine ze ?_ (by rfl))<;>(simp only[go_sem]<;>try rfl)
theorem c24 (a b:zx) (c:zY a) (d:zY b):qX Tryz.prog 183 [rat a,rat b] (Qi (vi VO a b)):=λh=>by
 refine zf Tryz.f183 [.cell 4 24,.tmp 5] 12 rfl rfl rfl rfl rfl rfl (by decide) (⟨_,_,⟨rfl,rfl⟩,.refl⟩) λB=>?_
 simp only[go_sem]
 refine zd (v8a (v:=VO) c64 (λ_ _=>⟨xw _,xw _⟩) a b c d _ _ (by simp only[go_sem]) (by simp only[go_sem])) ?_
 rintro _ _ ⟨rfl,rfl⟩
 simp only[go_sem]
 (first | refine zc ?_ | refine ze ?_ (by rfl))<;>(simp only[go_sem]<;>try rfl)
theorem c46 (a b:zx) (c:zY a) (d:zY b):qX Tryz.prog 118 [rat a,rat b] (Qi (vi koa a b)):=λh=>by
 refine zf Tryz.f118 [.cell 4 24,.tmp 5] 12 rfl rfl rfl rfl rfl rfl (by decide) (⟨_,_,⟨rfl,rfl⟩,.refl⟩) λB=>?_
 simp only[go_sem]
 refine zd (v8a (v:=koa) c75 (λ_ _=>⟨xw _,xw _⟩) a b c d _ _ (by simp only[go_sem]) (by simp only[go_sem])) ?_
 rintro _ _ ⟨rfl,rfl⟩
 simp only[go_sem]
 (first | refine zc ?_ | refine ze ?_ (by rfl))<;>(simp only[go_sem]<;>try rfl)
def Xt (a b:zx):Bool:=rok a && rok b && decide (wr (a.1*b.2)<wr (b.1*a.2))
theorem c20 (a b:zx) (d:zY a) (f:zY b):qX Tryz.prog 120 [rat a,rat b] (bl (Xt a b)):=λh=>by
 refine zf Tryz.f120 [.tmp 4] 24 rfl rfl rfl rfl rfl rfl (by decide) (⟨_,_,⟨rfl,rfl⟩,.refl⟩) λB=>?_
 simp only[go_sem]
 refine zd (c27 a d.1 d.2 _) ?_
 rintro _ _ ⟨rfl,rfl⟩
 simp only[go_sem]
 refine ways (λe=>?_) (λe=>?_)
 ·have e:=qV e
  simp only[go_sem,e]
  refine zd (c27 b f.1 f.2 _) ?_
  rintro _ _ ⟨rfl,rfl⟩
  simp only[go_sem,e]
  refine ways (λc=>?_) (λc=>?_)
  ·have c:=qV c
   simp only[go_sem,e,c]
   (first | refine zc ?_ | refine ze ?_ (by rfl))<;>(simp only[go_sem,Xt,e,c]<;>try rfl)
  ·have c:=qU c
   simp only[go_sem,e,c]
   (first | refine zc ?_ | refine ze ?_ (by rfl))<;>(simp only[go_sem,Xt,e,c]<;>try rfl)
 ·have e:=qU e
  simp only[go_sem,e]
  (first | refine zc ?_ | refine ze ?_ (by rfl))<;>(simp only[go_sem,Xt,e]<;>try rfl)
set_option maxRecDepth 100000
attribute [go_sem] xwa
theorem jq {k:Nat} (h:k<9223372036854775807):wr ((k:Int)+1)=((k+1:Nat):Int):=by rw[zt (by unfold Fit;omega)];rfl
def qv (p:zx):List AV:=[i64 p.1,i64 p.2]
theorem wz (n d:Int):zY (make n d).1:=by
 unfold make zY
 split
 ·exact ⟨⟨by decide,by decide⟩,⟨by decide,by decide⟩⟩
 ·split
  ·exact ⟨⟨by decide,by decide⟩,⟨by decide,by decide⟩⟩
  ·split
   ·exact ⟨⟨by decide,by decide⟩,⟨by decide,by decide⟩⟩
   ·exact ⟨xw _,xw _⟩
theorem Qj (v:zx->zx->Int × Int) (a b:zx):zY (vi v a b).1:=by
 unfold vi
 split
 ·exact wz _ _
 ·exact ⟨⟨by decide,by decide⟩,⟨by decide,by decide⟩⟩
def JH:zx->List zx->zx × Int
 | out,[]=>(out,0)
 | out,r::l=>if (vi jAa out r).2≠0 then ((0,0),(vi jAa out r).2) else JH (vi jAa out r).1 l
def kQ (l:List zx):zx × Int:=if l.all rok then JH (0,1) l else ((0,0),20)
theorem c23 (h:List Ob) (x:AV) (l:List zx) (v:∀p∈l,zY p) (E:l.length<1099511627776) (z:SlOf h x 2 (l.map qv)):
  ACalls Tryz.prog 114 [x] h λr h'=>r=Qi (kQ l)/\h'=h:=by
 refine zf Tryz.f114 [.cell 2 24,.tmp 3] 38 rfl rfl rfl rfl rfl rfl (by decide) (⟨_,_,⟨rfl,rfl⟩,.refl⟩) λB=>?_
 simp only[go_sem]
 refine zd (c52 _) ?_
 rintro _ D ⟨rfl,f⟩
 subst f
 have F:∀L,zo (h++L) x=some (l.map qv):=λL=>(z.app L).rows
 simp only[go_sem,F,List.length_map]
 refine zk (by decide) (λn T h'=>∃(k:Nat) (L:List Ob),h'=h++(Ob.box 24 [i64 0,i64 1]::L)/\T 0=x/\T 2= .ptr h.length 0/\T 9=x/\T 10=i64 l.length/\T 11=i64 k/\k<=l.length/\(l.take k).all rok=true/\n=l.length - k) l.length
  ⟨0,[],rfl,by simp only[go_sem],by simp only[go_sem],by simp only[go_sem],by simp only[go_sem],by (simp only[go_sem]<;>rfl),by omega,rfl,rfl⟩ ?_
 rintro n T h' ⟨k,L,e,t0,t2,t9,t10,g,C,b,rfl⟩
 have o:SlOf h' x 2 (l.map qv):=by subst e;exact z.app _
 simp only[go_sem,t9,t10,g]
 refine ways (λf=>?_) (λf=>?_)
 ·have a:k<l.length:=by simpa using f
  have w:=o.at (i:=k) (by simpa using a)
  have y:(l.map qv)[k]? =some (qv l[k]):=by simp[a]
  have q:(k:Int)<l.length:=by omega
  simp only[go_sem,w,o.rows,y,q,t9,t10,g,Int.toNat_natCast,Int.natCast_nonneg,List.length_map,qv]
  refine zd (c27 l[k] (v _ (List.getElem_mem a)).1 (v _ (List.getElem_mem a)).2 _) ?_
  rintro _ D ⟨rfl,u⟩
  subst u
  simp only[go_sem]
  refine ways (λd=>?_) (λd=>?_)
  ·simp only[Bool.not_eq_true'] at d
   have t:∀M,(h'++M)[h.length]? =some (Ob.box 24 [i64 0,i64 1]):=λM=>by subst e;simp only[go_sem]
   simp only[go_sem,t2,t]
   subst e
   simp only[go_sem]
   have E:l.all rok=false:=by
    rw[List.all_eq_false]
    exact ⟨l[k],List.getElem_mem a,by simp[d]⟩
   (first | refine zc ?_ | refine ze ?_ (by rfl))<;>(simp only[go_sem,t2,kQ,E]<;>try rfl)
  ·simp only[Bool.not_eq_false'] at d
   simp only[go_sem,g,jq (show k<9223372036854775807 by omega)]
   refine ⟨l.length - (k+1),by omega,k+1,L++[Ob.box 24 [i64 l[k].1,i64 l[k].2]],by rw[e];simp,t0,t2,t9,t10,rfl,by omega,?_,rfl⟩
   rw[List.take_add_one,List.getElem?_eq_getElem a,List.all_append,b]
   simp only[Option.toList_some,List.all_cons,List.all_nil,d,Bool.and_self]
 ·have a:k=l.length:=by
   have:¬ (k:Int)<l.length:=by simpa using f
   omega
  have c:l.all rok=true:=by rw[a,List.take_length] at b;exact b
  simp only[go_sem,t0,o.rows,List.length_map]
  refine zk (by decide) (λn T h'=>∃(k:Nat) (out:zx) (L:List Ob),h'=h++(Ob.box 24 [i64 out.1,i64 out.2]::L)/\zY out/\T 2= .ptr h.length 0/\T 20=x/\T 21=i64 l.length/\T 22=i64 k/\k<=l.length/\JH (0,1) l=JH out (l.drop k)/\n=l.length - k) l.length
   ⟨0,(0,1),L,e,⟨⟨by decide,by decide⟩,⟨by decide,by decide⟩⟩,by simp only[go_sem,t2],by simp only[go_sem],by simp only[go_sem],by (simp only[go_sem]<;>rfl),by omega,rfl,rfl⟩ ?_
  clear o t0 t2 t9 t10 g C a f e b
  clear k L h' T
  rintro n T h' ⟨k,out,L,e,A,t2,j,m,t22,C,s,rfl⟩
  have o:SlOf h' x 2 (l.map qv):=by subst e;exact z.app _
  simp only[go_sem,j,m,t22]
  refine ways (λf=>?_) (λf=>?_)
  ·have a:k<l.length:=by simpa using f
   have w:=o.at (i:=k) (by simpa using a)
   have y:(l.map qv)[k]? =some (qv l[k]):=by simp[a]
   have q:(k:Int)<l.length:=by omega
   have t:∀M,(h'++M)[h.length]? =some (Ob.box 24 [i64 out.1,i64 out.2]):=λM=>by subst e;simp only[go_sem]
   simp only[go_sem,w,o.rows,y,q,t2,t,j,m,t22,Int.toNat_natCast,Int.natCast_nonneg,List.length_map,qv]
   refine zd (c63 out l[k] A (v _ (List.getElem_mem a)) _) ?_
   rintro _ D ⟨rfl,u⟩
   subst u
   simp only[go_sem,t2,t]
   refine ways (λd=>?_) (λd=>?_)
   ·simp only[bne_iff_ne,ne_eq] at d
    subst e
    simp only[go_sem,t2]
    rw[List.drop_eq_getElem_cons a] at s
    (first | refine zc ?_ | refine ze ?_ (by rfl))<;>(simp only[go_sem,t2,kQ,c,s,JH,d]<;>try rfl)
   ·simp only[bne_eq_false_iff_eq] at d
    simp only[go_sem,t22,jq (show k<9223372036854775807 by omega)]
    subst e
    refine ⟨l.length - (k+1),by omega,k+1,(vi jAa out l[k]).1,L++[Ob.box 24 [i64 l[k].1,i64 l[k].2]],by simp only[go_sem],Qj _ _ _,t2,j,m,rfl,by omega,?_,rfl⟩
    rw[s,List.drop_eq_getElem_cons a]
    simp[JH,d]
  ·have a:k=l.length:=by
    have:¬ (k:Int)<l.length:=by simpa using f
    omega
   rw[a,List.drop_length] at s
   subst e
   simp only[go_sem,t2]
   (first | refine zc ?_ | refine ze ?_ (by rfl))<;>(simp only[go_sem,t2,kQ,c,s,JH]<;>try rfl)
set_option maxRecDepth 100000
attribute [go_sem] vIa vKa q4a vLa vMa vNa xya xxa xza
def wq (h:List Ob) (f:FuncId) (a:List AV) (arg:List AV->AV) (rows:List (List AV)) (p:List AV->Bool):Prop:=
 ∀row∈rows,∀L,ACalls Tryz.prog f ([arg row]++a) (h++L) λr h'=>r=bl (p row)/\h'=h++L
def Qk (rows:List (List AV)) (p:List AV->Bool):Int:=match rows.findIdx? p with
 | some i=>(i:Int)
 | none=> -1
theorem vC {rows:List (List AV)} {p:List AV->Bool} {k:Nat} (c:k<rows.length) (h0:∀j (a:j<k),p (rows[j]'(by omega))=false) (b:p rows[k]=true):Qk rows p=k:=by
 unfold Qk
 rw[List.findIdx?_eq_some_iff_getElem.2 ⟨c,b,λj a=>by simp[h0 j a]⟩]
theorem vn {rows:List (List AV)} {p:List AV->Bool} (h0:∀j (a:j<rows.length),p rows[j]=false):Qk rows p= -1:=by
 unfold Qk
 rw[List.findIdx?_eq_none_iff.2 λx b=>by obtain ⟨j,a,e⟩:=List.getElem_of_mem b;rw[<-e];exact h0 j a]
theorem kI (rows:List (List AV)) (p:List AV->Bool):decide (Qk rows p≥0)=rows.any p:=by
 unfold Qk
 cases h:rows.findIdx? p with
 | some i=>
   obtain ⟨a,c,_⟩:=List.findIdx?_eq_some_iff_getElem.1 h
   have:rows.any p=true:=List.any_eq_true.2 ⟨_,List.getElem_mem a,c⟩
   rw[this]
   simp
 | none=>
   have:=List.findIdx?_eq_none_iff.1 h
   have:rows.any p=false:=List.any_eq_false.2 λx b=>by simp[this x b]
   rw[this]
   simp
abbrev agA (row:List AV):AV:= .ag row
abbrev yVa (row:List AV):AV:=nth row 0
theorem Jya (h:List Ob) (x:AV) (f:FuncId) (l:List AV) (rows:List (List AV)) (p:List AV->Bool) (D:rows.length<9223372036854775808) (y:∀r∈rows,r.length=1) (q:SlOf h x 1 rows) (z:wq h f l yVa rows p):
  ACalls Tryz.prog 205 [x,.fn (.func f) [] l] h λr h'=>r=i64 (Qk rows p)/\h'=h:=by
 refine zf Tryz.f205 [.tmp 4] 19 rfl rfl rfl rfl rfl rfl (by decide) (⟨_,_,⟨rfl,rfl⟩,.refl⟩) λB=>?_
 simp only[go_sem,q.rows]
 refine zk (by decide) (λn T h'=>h'=h/\∃k:Nat,T 0=x/\T 1= .fn (.func f) [] l/\T 7=i64 rows.length/\T 8=i64 k/\k<=rows.length/\(∀j (e:j<rows.length),j<k->p rows[j]=false)/\n=rows.length - k) rows.length
  ⟨rfl,0,by simp only[go_sem],by simp only[go_sem],by simp only[go_sem],by (simp only[go_sem]<;>rfl),by omega,λ_ _ h=>by omega,rfl⟩ ?_
 rintro n T h' ⟨rfl,k,t0,t1,o,t8,A,h0,rfl⟩
 simp only[go_sem,o,t8]
 refine ways (λs=>?_) (λs=>?_)
 ·have a:k<rows.length:=by simpa using s
  have m:=q.at a
  have b:rows[k]? =some rows[k]:=List.getElem?_eq_getElem a
  have t:(k:Int)<rows.length:=by omega
  have w:=y rows[k] (List.getElem_mem a)
  obtain ⟨a0,c⟩:∃a0,rows[k]=[a0]:=by
   match hr:rows[k],w with
   | [a0],_=>exact ⟨_,rfl⟩
  have d:=z rows[k] (List.getElem_mem a) []
  rw[c] at b d
  simp only[List.append_nil,List.cons_append,List.nil_append,yVa,nth] at d
  simp only[go_sem,m,q.rows,b,t,t0,t1,o,t8,Int.toNat_natCast,Int.natCast_nonneg]
  refine zd d ?_
  rintro _ C ⟨rfl,u⟩
  subst u
  simp only[go_sem]
  refine ways (λi=>?_) (λi=>?_)
  ·simp only[go_sem,t8]
   rw[<-c] at i
   (first | refine zc ?_ | refine ze ?_ (by rfl))<;>(simp only[go_sem,t8,vC a (λj e=>h0 j (by omega) e) i]<;>try rfl)
  ·simp only[go_sem,t8,jq (show k<9223372036854775807 by omega)]
   rw[<-c] at i
   refine ⟨rows.length - (k+1),by omega,k+1,t0,t1,o,rfl,by omega,λj e v=>?_,rfl⟩
   rcases Nat.lt_or_ge j k with g | g
   ·exact h0 j e g
   ·have:j=k:=by omega
    subst this
    exact i
 ·have a:k=rows.length:=by
   have:¬ (k:Int)<rows.length:=by simpa using s
   omega
  simp only[go_sem]
  (first | refine zc ?_ | refine ze ?_ (by rfl))<;>(simp only[go_sem,vn λj e=>h0 j e (by omega)]<;>try rfl)
theorem c98 (h:List Ob) (x:AV) (f:FuncId) (a:List AV) (rows:List (List AV)) (p:List AV->Bool) (g:rows.length<9223372036854775808) (b:∀r∈rows,r.length=1) (e:SlOf h x 1 rows) (d:wq h f a yVa rows p):
  ACalls Tryz.prog 192 [x,.fn (.func f) [] a] h λr h'=>r=bl (rows.any p)/\h'=h:=by
 refine zf Tryz.f192 [.tmp 4] 9 rfl rfl rfl rfl rfl rfl (by decide) (⟨_,_,⟨rfl,rfl⟩,.refl⟩) λB=>?_
 simp only[go_sem]
 refine zd (Jya h x f a rows p g b e d) ?_
 rintro _ i ⟨rfl,c⟩
 subst c
 simp only[go_sem,kI]
 (first | refine zc ?_ | refine ze ?_ (by rfl))<;>(simp only[go_sem,kI]<;>try rfl)
theorem Jza (h:List Ob) (x:AV) (f:FuncId) (l:List AV) (rows:List (List AV)) (p:List AV->Bool) (D:rows.length<9223372036854775808) (y:∀r∈rows,r.length=2) (q:SlOf h x 2 rows) (z:wq h f l agA rows p):
  ACalls Tryz.prog 237 [x,.fn (.func f) [] l] h λr h'=>r=i64 (Qk rows p)/\h'=h:=by
 refine zf Tryz.f237 [.tmp 4] 19 rfl rfl rfl rfl rfl rfl (by decide) (⟨_,_,⟨rfl,rfl⟩,.refl⟩) λB=>?_
 simp only[go_sem,q.rows]
 refine zk (by decide) (λn T h'=>h'=h/\∃k:Nat,T 0=x/\T 1= .fn (.func f) [] l/\T 7=i64 rows.length/\T 8=i64 k/\k<=rows.length/\(∀j (e:j<rows.length),j<k->p rows[j]=false)/\n=rows.length - k) rows.length
  ⟨rfl,0,by simp only[go_sem],by simp only[go_sem],by simp only[go_sem],by (simp only[go_sem]<;>rfl),by omega,λ_ _ h=>by omega,rfl⟩ ?_
 rintro n T h' ⟨rfl,k,t0,t1,o,t8,A,h0,rfl⟩
 simp only[go_sem,o,t8]
 refine ways (λs=>?_) (λs=>?_)
 ·have a:k<rows.length:=by simpa using s
  have m:=q.at a
  have b:rows[k]? =some rows[k]:=List.getElem?_eq_getElem a
  have t:(k:Int)<rows.length:=by omega
  have w:=y rows[k] (List.getElem_mem a)
  obtain ⟨a0,a1,c⟩:∃a0 a1,rows[k]=[a0,a1]:=by
   match hr:rows[k],w with
   | [a0,a1],_=>exact ⟨_,_,rfl⟩
  have d:=z rows[k] (List.getElem_mem a) []
  rw[c] at b d
  simp only[List.append_nil,List.cons_append,List.nil_append,agA,nth] at d
  simp only[go_sem,m,q.rows,b,t,t0,t1,o,t8,Int.toNat_natCast,Int.natCast_nonneg]
  refine zd d ?_
  rintro _ C ⟨rfl,u⟩
  subst u
  simp only[go_sem]
  refine ways (λi=>?_) (λi=>?_)
  ·simp only[go_sem,t8]
   rw[<-c] at i
   (first | refine zc ?_ | refine ze ?_ (by rfl))<;>(simp only[go_sem,t8,vC a (λj e=>h0 j (by omega) e) i]<;>try rfl)
  ·simp only[go_sem,t8,jq (show k<9223372036854775807 by omega)]
   rw[<-c] at i
   refine ⟨rows.length - (k+1),by omega,k+1,t0,t1,o,rfl,by omega,λj e v=>?_,rfl⟩
   rcases Nat.lt_or_ge j k with g | g
   ·exact h0 j e g
   ·have:j=k:=by omega
    subst this
    exact i
 ·have a:k=rows.length:=by
   have:¬ (k:Int)<rows.length:=by simpa using s
   omega
  simp only[go_sem]
  (first | refine zc ?_ | refine ze ?_ (by rfl))<;>(simp only[go_sem,vn λj e=>h0 j e (by omega)]<;>try rfl)
theorem JAa (h:List Ob) (x:AV) (f:FuncId) (a:List AV) (rows:List (List AV)) (p:List AV->Bool) (g:rows.length<9223372036854775808) (b:∀r∈rows,r.length=2) (e:SlOf h x 2 rows) (d:wq h f a agA rows p):
  ACalls Tryz.prog 195 [x,.fn (.func f) [] a] h λr h'=>r=bl (rows.any p)/\h'=h:=by
 refine zf Tryz.f195 [.tmp 4] 9 rfl rfl rfl rfl rfl rfl (by decide) (⟨_,_,⟨rfl,rfl⟩,.refl⟩) λB=>?_
 simp only[go_sem]
 refine zd (Jza h x f a rows p g b e d) ?_
 rintro _ i ⟨rfl,c⟩
 subst c
 simp only[go_sem,kI]
 (first | refine zc ?_ | refine ze ?_ (by rfl))<;>(simp only[go_sem,kI]<;>try rfl)
theorem JBa (h:List Ob) (x:AV) (f:FuncId) (l:List AV) (rows:List (List AV)) (p:List AV->Bool) (D:rows.length<9223372036854775808) (y:∀r∈rows,r.length=3) (q:SlOf h x 3 rows) (z:wq h f l agA rows p):
  ACalls Tryz.prog 194 [x,.fn (.func f) [] l] h λr h'=>r=i64 (Qk rows p)/\h'=h:=by
 refine zf Tryz.f194 [.tmp 4] 19 rfl rfl rfl rfl rfl rfl (by decide) (⟨_,_,⟨rfl,rfl⟩,.refl⟩) λB=>?_
 simp only[go_sem,q.rows]
 refine zk (by decide) (λn T h'=>h'=h/\∃k:Nat,T 0=x/\T 1= .fn (.func f) [] l/\T 7=i64 rows.length/\T 8=i64 k/\k<=rows.length/\(∀j (e:j<rows.length),j<k->p rows[j]=false)/\n=rows.length - k) rows.length
  ⟨rfl,0,by simp only[go_sem],by simp only[go_sem],by simp only[go_sem],by (simp only[go_sem]<;>rfl),by omega,λ_ _ h=>by omega,rfl⟩ ?_
 rintro n T h' ⟨rfl,k,t0,t1,o,t8,A,h0,rfl⟩
 simp only[go_sem,o,t8]
 refine ways (λs=>?_) (λs=>?_)
 ·have a:k<rows.length:=by simpa using s
  have m:=q.at a
  have b:rows[k]? =some rows[k]:=List.getElem?_eq_getElem a
  have t:(k:Int)<rows.length:=by omega
  have w:=y rows[k] (List.getElem_mem a)
  obtain ⟨a0,a1,a2,c⟩:∃a0 a1 a2,rows[k]=[a0,a1,a2]:=by
   match hr:rows[k],w with
   | [a0,a1,a2],_=>exact ⟨_,_,_,rfl⟩
  have d:=z rows[k] (List.getElem_mem a) []
  rw[c] at b d
  simp only[List.append_nil,List.cons_append,List.nil_append,agA,nth] at d
  simp only[go_sem,m,q.rows,b,t,t0,t1,o,t8,Int.toNat_natCast,Int.natCast_nonneg]
  refine zd d ?_
  rintro _ C ⟨rfl,u⟩
  subst u
  simp only[go_sem]
  refine ways (λi=>?_) (λi=>?_)
  ·simp only[go_sem,t8]
   rw[<-c] at i
   (first | refine zc ?_ | refine ze ?_ (by rfl))<;>(simp only[go_sem,t8,vC a (λj e=>h0 j (by omega) e) i]<;>try rfl)
  ·simp only[go_sem,t8,jq (show k<9223372036854775807 by omega)]
   rw[<-c] at i
   refine ⟨rows.length - (k+1),by omega,k+1,t0,t1,o,rfl,by omega,λj e v=>?_,rfl⟩
   rcases Nat.lt_or_ge j k with g | g
   ·exact h0 j e g
   ·have:j=k:=by omega
    subst this
    exact i
 ·have a:k=rows.length:=by
   have:¬ (k:Int)<rows.length:=by simpa using s
   omega
  simp only[go_sem]
  (first | refine zc ?_ | refine ze ?_ (by rfl))<;>(simp only[go_sem,vn λj e=>h0 j e (by omega)]<;>try rfl)
theorem c78 (h:List Ob) (x:AV) (f:FuncId) (a:List AV) (rows:List (List AV)) (p:List AV->Bool) (g:rows.length<9223372036854775808) (b:∀r∈rows,r.length=3) (e:SlOf h x 3 rows) (d:wq h f a agA rows p):
  ACalls Tryz.prog 129 [x,.fn (.func f) [] a] h λr h'=>r=bl (rows.any p)/\h'=h:=by
 refine zf Tryz.f129 [.tmp 4] 9 rfl rfl rfl rfl rfl rfl (by decide) (⟨_,_,⟨rfl,rfl⟩,.refl⟩) λB=>?_
 simp only[go_sem]
 refine zd (JBa h x f a rows p g b e d) ?_
 rintro _ i ⟨rfl,c⟩
 subst c
 simp only[go_sem,kI]
 (first | refine zc ?_ | refine ze ?_ (by rfl))<;>(simp only[go_sem,kI]<;>try rfl)
theorem JCa (h:List Ob) (x:AV) (f:FuncId) (l:List AV) (rows:List (List AV)) (p:List AV->Bool) (D:rows.length<9223372036854775808) (y:∀r∈rows,r.length=4) (q:SlOf h x 4 rows) (z:wq h f l agA rows p):
  ACalls Tryz.prog 197 [x,.fn (.func f) [] l] h λr h'=>r=i64 (Qk rows p)/\h'=h:=by
 refine zf Tryz.f197 [.tmp 4] 19 rfl rfl rfl rfl rfl rfl (by decide) (⟨_,_,⟨rfl,rfl⟩,.refl⟩) λB=>?_
 simp only[go_sem,q.rows]
 refine zk (by decide) (λn T h'=>h'=h/\∃k:Nat,T 0=x/\T 1= .fn (.func f) [] l/\T 7=i64 rows.length/\T 8=i64 k/\k<=rows.length/\(∀j (e:j<rows.length),j<k->p rows[j]=false)/\n=rows.length - k) rows.length
  ⟨rfl,0,by simp only[go_sem],by simp only[go_sem],by simp only[go_sem],by (simp only[go_sem]<;>rfl),by omega,λ_ _ h=>by omega,rfl⟩ ?_
 rintro n T h' ⟨rfl,k,t0,t1,o,t8,A,h0,rfl⟩
 simp only[go_sem,o,t8]
 refine ways (λs=>?_) (λs=>?_)
 ·have a:k<rows.length:=by simpa using s
  have m:=q.at a
  have b:rows[k]? =some rows[k]:=List.getElem?_eq_getElem a
  have t:(k:Int)<rows.length:=by omega
  have w:=y rows[k] (List.getElem_mem a)
  obtain ⟨a0,a1,a2,a3,c⟩:∃a0 a1 a2 a3,rows[k]=[a0,a1,a2,a3]:=by
   match hr:rows[k],w with
   | [a0,a1,a2,a3],_=>exact ⟨_,_,_,_,rfl⟩
  have d:=z rows[k] (List.getElem_mem a) []
  rw[c] at b d
  simp only[List.append_nil,List.cons_append,List.nil_append,agA,nth] at d
  simp only[go_sem,m,q.rows,b,t,t0,t1,o,t8,Int.toNat_natCast,Int.natCast_nonneg]
  refine zd d ?_
  rintro _ C ⟨rfl,u⟩
  subst u
  simp only[go_sem]
  refine ways (λi=>?_) (λi=>?_)
  ·simp only[go_sem,t8]
   rw[<-c] at i
   (first | refine zc ?_ | refine ze ?_ (by rfl))<;>(simp only[go_sem,t8,vC a (λj e=>h0 j (by omega) e) i]<;>try rfl)
  ·simp only[go_sem,t8,jq (show k<9223372036854775807 by omega)]
   rw[<-c] at i
   refine ⟨rows.length - (k+1),by omega,k+1,t0,t1,o,rfl,by omega,λj e v=>?_,rfl⟩
   rcases Nat.lt_or_ge j k with g | g
   ·exact h0 j e g
   ·have:j=k:=by omega
    subst this
    exact i
 ·have a:k=rows.length:=by
   have:¬ (k:Int)<rows.length:=by simpa using s
   omega
  simp only[go_sem]
  (first | refine zc ?_ | refine ze ?_ (by rfl))<;>(simp only[go_sem,vn λj e=>h0 j e (by omega)]<;>try rfl)
theorem c81 (h:List Ob) (x:AV) (f:FuncId) (a:List AV) (rows:List (List AV)) (p:List AV->Bool) (g:rows.length<9223372036854775808) (b:∀r∈rows,r.length=4) (e:SlOf h x 4 rows) (d:wq h f a agA rows p):
  ACalls Tryz.prog 132 [x,.fn (.func f) [] a] h λr h'=>r=bl (rows.any p)/\h'=h:=by
 refine zf Tryz.f132 [.tmp 4] 9 rfl rfl rfl rfl rfl rfl (by decide) (⟨_,_,⟨rfl,rfl⟩,.refl⟩) λB=>?_
 simp only[go_sem]
 refine zd (JCa h x f a rows p g b e d) ?_
 rintro _ i ⟨rfl,c⟩
 subst c
 simp only[go_sem,kI]
 (first | refine zc ?_ | refine ze ?_ (by rfl))<;>(simp only[go_sem,kI]<;>try rfl)
theorem c42 (h:List Ob) (x:AV) (f:FuncId) (o:List AV) (rows:List (List AV)) (p:List AV->Bool) (H:rows.length<9223372036854775808) (D:∀r∈rows,r.length=11) (v:SlOf h x 11 rows) (E:wq h f o agA rows p):
  ACalls Tryz.prog 56 [x,.fn (.func f) [] o] h λr h'=>r=i64 (Qk rows p)/\h'=h:=by
 refine zf Tryz.f56 [.tmp 4] 19 rfl rfl rfl rfl rfl rfl (by decide) (⟨_,_,⟨rfl,rfl⟩,.refl⟩) λB=>?_
 simp only[go_sem,v.rows]
 refine zk (by decide) (λn T h'=>h'=h/\∃k:Nat,T 0=x/\T 1= .fn (.func f) [] o/\T 7=i64 rows.length/\T 8=i64 k/\k<=rows.length/\(∀j (g:j<rows.length),j<k->p rows[j]=false)/\n=rows.length - k) rows.length
  ⟨rfl,0,by simp only[go_sem],by simp only[go_sem],by simp only[go_sem],by (simp only[go_sem]<;>rfl),by omega,λ_ _ h=>by omega,rfl⟩ ?_
 rintro n T h' ⟨rfl,k,t0,t1,u,t8,F,h0,rfl⟩
 simp only[go_sem,u,t8]
 refine ways (λw=>?_) (λw=>?_)
 ·have a:k<rows.length:=by simpa using w
  have t:=v.at a
  have b:rows[k]? =some rows[k]:=List.getElem?_eq_getElem a
  have y:(k:Int)<rows.length:=by omega
  have C:=D rows[k] (List.getElem_mem a)
  obtain ⟨a0,a1,a2,a3,a4,a5,s,q,m,a9,d,c⟩:∃a0 a1 a2 a3 a4 a5 s q m a9 d,rows[k]=[a0,a1,a2,a3,a4,a5,s,q,m,a9,d]:=by
   match hr:rows[k],C with
   | [a0,a1,a2,a3,a4,a5,s,q,m,a9,d],_=>exact ⟨_,_,_,_,_,_,_,_,_,_,_,rfl⟩
  have e:=E rows[k] (List.getElem_mem a) []
  rw[c] at b e
  simp only[List.append_nil,List.cons_append,List.nil_append,agA,nth] at e
  simp only[go_sem,t,v.rows,b,y,t0,t1,u,t8,Int.toNat_natCast,Int.natCast_nonneg]
  refine zd e ?_
  rintro _ G ⟨rfl,z⟩
  subst z
  simp only[go_sem]
  refine ways (λl=>?_) (λl=>?_)
  ·simp only[go_sem,t8]
   rw[<-c] at l
   (first | refine zc ?_ | refine ze ?_ (by rfl))<;>(simp only[go_sem,t8,vC a (λj g=>h0 j (by omega) g) l]<;>try rfl)
  ·simp only[go_sem,t8,jq (show k<9223372036854775807 by omega)]
   rw[<-c] at l
   refine ⟨rows.length - (k+1),by omega,k+1,t0,t1,u,rfl,by omega,λj g A=>?_,rfl⟩
   rcases Nat.lt_or_ge j k with i | i
   ·exact h0 j g i
   ·have:j=k:=by omega
    subst this
    exact l
 ·have a:k=rows.length:=by
   have:¬ (k:Int)<rows.length:=by simpa using w
   omega
  simp only[go_sem]
  (first | refine zc ?_ | refine ze ?_ (by rfl))<;>(simp only[go_sem,vn λj g=>h0 j g (by omega)]<;>try rfl)
end Go.Proofs.YtfmldcilgbbimaaGreat.Ax
