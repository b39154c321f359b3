/-
  Joined.
-/
import Derived.Test.YtfmldcilgbbimaaGreatK28
set_option linter.unusedSimpArgs false
set_option linter.unusedVariables false
namespace Go.Proofs.YtfmldcilgbbimaaGreat.Ax
open Go Go.Proofs
structure Lo (p:zF):Prop where
 pos:0<p.2
 cop:Int.gcd p.1 p.2=1
 num: -2147483647<=p.1/\p.1<=2147483647
 den:p.2<=2147483647
theorem k7a {a b g c:Int} (h:a*c=g*b) (f:Int.gcd a b=1):b∣c:=by
 have e:b.natAbs∣a.natAbs*c.natAbs:=by
  rw[<-Int.natAbs_mul,h,Int.natAbs_mul]
  exact Nat.dvd_mul_left _ _
 have d:Nat.Coprime b.natAbs a.natAbs:=by
  have:Nat.gcd a.natAbs b.natAbs=1:=f
  rw[Nat.Coprime,Nat.gcd_comm];exact this
 exact Int.natAbs_dvd_natAbs.1 (d.dvd_of_dvd_mul_left e)
theorem ZCa {a b f c:Int} (l:0<b) (k:0<c) (j:Int.gcd a b=1) (d:Int.gcd f c=1) (h:a*c=f*b):a=f/\b=c:=by
 have i:=k7a h j
 have g:=k7a h.symm d
 have e:b=c:=Int.dvd_antisymm (by omega) (by omega) i g
 subst e
 exact ⟨Int.eq_of_mul_eq_mul_right (by omega) h,rfl⟩
theorem jba {n:Int} (h: -9223372036854775807<=n/\n<=9223372036854775807):(Z3 n).toNat=n.natAbs:=by
 unfold Z3
 split
 ·omega
 ·split
  ·rw[zI (by unfold Fit;omega)];omega
  ·omega
theorem Wl {n d:Int} (t: -9223372036854775807<=n/\n<=9223372036854775807) (s:0<d/\d<=9223372036854775807):
  ∃a b g:Int,0<g/\n=g*a/\d=g*b/\0<b/\Int.gcd a b=1/\make n d=if a>2147483647∨a< -2147483647∨b>2147483647 then ((0,0),10) else ((a,b),0):=by
 have j:¬ d<=0:=by omega
 by_cases h0:n=0
 ·refine ⟨0,1,d,s.1,by omega,by omega,by omega,by decide,?_⟩
  rw[make,if_neg j,if_pos h0];rfl
 ·have m:KV n d=(Int.gcd n d:Int):=by
   unfold KV
   rw[jba t,jba (by omega)];rfl
  have p:0<Int.gcd n d:=Int.gcd_pos_of_ne_zero_left _ h0
  obtain ⟨a,c⟩:=Int.gcd_dvd_left n d
  obtain ⟨b,k⟩:=Int.gcd_dvd_right n d
  obtain ⟨g,o⟩:∃g:Nat,g=Int.gcd n d:=⟨_,rfl⟩
  rw[<-o] at m p c k
  have i:(0:Int)<g:=by omega
  have l:0<b:=by
   rcases Int.lt_or_le 0 b with h | h
   ·exact h
   ·have:=Int.mul_le_mul_of_nonneg_left h (Int.le_of_lt i)
    omega
  have f:Int.gcd a b=1:=by
   have e:Int.gcd ((g:Int)*a) ((g:Int)*b)=g*Int.gcd a b:=by
    rw[Int.gcd_mul_left];simp
   rw[<-c, <-k, <-o] at e
   have:g*1=g*Int.gcd a b:=by omega
   exact (Nat.eq_of_mul_eq_mul_left p this).symm
  have u:n.tdiv (g:Int)=a:=by rw[c];exact Int.mul_tdiv_cancel_left a (by omega)
  have q:d.tdiv (g:Int)=b:=by rw[k];exact Int.mul_tdiv_cancel_left b (by omega)
  have w: -9223372036854775807<=a/\a<=9223372036854775807:=by
   have r:a.natAbs<=n.natAbs:=by
    rw[c,Int.natAbs_mul]
    exact Nat.le_mul_of_pos_left _ (by omega)
   omega
  have v:b<=9223372036854775807:=by
   have r:b.natAbs<=d.natAbs:=by
    rw[k,Int.natAbs_mul]
    exact Nat.le_mul_of_pos_left _ (by omega)
   omega
  refine ⟨a,b,g,i,c,k,l,f,?_⟩
  rw[make,if_neg j,if_neg h0,m,u,q,zI (by unfold Fit;omega),zI (by unfold Fit;omega)]
theorem zKa {n d:Int} (j: -9223372036854775807<=n/\n<=9223372036854775807) (i:0<d/\d<=9223372036854775807) (h:(make n d).2=0):
  Lo (make n d).1/\(make n d).1.1*d=n*(make n d).1.2:=by
 obtain ⟨a,b,g,o,c,m,f,l,e⟩:=Wl j i
 rw[e] at h⊢
 split at h
 ·exact absurd h (by decide)
 ·rename_i k
  rw[if_neg k]
  refine ⟨⟨f,l,by simp only;omega,by simp only;omega⟩,?_⟩
  simp only
  rw[c,m];grind
theorem Jza {p:zF} (h:Lo p):make p.1 p.2=(p,0):=by
 have:=h.num;have:=h.den;have:=h.pos
 obtain ⟨a,b,g,m,c,l,f,k,e⟩:=Wl (n:=p.1) (d:=p.2) (by omega) (by omega)
 obtain ⟨i,j⟩:=ZCa h.pos f h.cop k (by rw[c,l];grind)
 rw[e, <-i, <-j,if_neg (by omega)]
theorem ZDa {p:zF} (h:Lo p):rok p=true:=by simp[rok,Jza h]
theorem ZEa {p:zF} (h:rok p=true):make p.1 p.2=(p,0):=by
 simp only[rok,Bool.and_eq_true,beq_iff_eq] at h
 exact Prod.ext (Prod.ext h.2.1 h.2.2) h.1
theorem ZFa {p:zF} (h:rok p=true):Lo p:=by
 obtain ⟨⟨b1,b2⟩,b3,b4⟩:=YN h
 have e:=ZEa h
 have:=(zKa (n:=p.1) (d:=p.2) (by omega) (by omega) (by rw[e])).1
 rw[e] at this
 exact this
theorem KD {n:Int} (c: -9223372036854775807<=n/\n<=9223372036854775807) (h:(make n 1).2=0):(-2147483647<=n/\n<=2147483647)/\(make n 1).1=(n,1):=by
 obtain ⟨a,b,g,m,k,j,l,o,e⟩:=Wl c (d:=1) (by omega)
 have f:g=1:=by
  have:g∣1:=⟨b,j⟩
  exact Int.eq_one_of_dvd_one (by omega) this
 subst f
 rw[e] at h
 split at h
 ·exact absurd h (by decide)
 ·rename_i i
  rw[e,if_neg i]
  exact ⟨by omega,by simp only[Prod.mk.injEq];omega⟩
theorem KEa {v:zF->zF->Int × Int} {a b:zF} (h:(w8 v a b).2=0):rok a=true/\rok b=true/\w8 v a b=make (v a b).1 (v a b).2:=by
 unfold w8 at h⊢
 split at h
 ·rename_i c
  rw[if_pos c]
  simp only[Bool.and_eq_true] at c
  exact ⟨c.1,c.2,rfl⟩
 ·exact absurd h (by decide)
theorem ZGa {v:zF->zF->Int × Int} {a b:zF} (c:Lo a) (d:Lo b):w8 v a b=make (v a b).1 (v a b).2:=by
 rw[w8,if_pos (by simp[ZDa c,ZDa d])]
theorem Wm {x y:Int} (a: -2147483647<=x) (b:x<=2147483647) (d: -2147483647<=y) (c:y<=2147483647): -4611686014132420609<=x*y/\x*y<=4611686014132420609:=by
 have h:(x*y).natAbs<=2147483647*2147483647:=by
  rw[Int.natAbs_mul]
  exact Nat.mul_le_mul (by omega) (by omega)
 omega
theorem KFa {a b:zF} (c:Lo a) (d:Lo b):w9 a b=make (a.1*b.2 - b.1*a.2) (a.2*b.2)/\(-9223372036854775807<=a.1*b.2 - b.1*a.2/\a.1*b.2 - b.1*a.2<=9223372036854775807)/\(0<a.2*b.2/\a.2*b.2<=9223372036854775807):=by
 have:=c.num;have:=c.den;have:=c.pos;have:=d.num;have:=d.den;have:=d.pos
 have e:=Wm (x:=a.1) (y:=b.2) (by omega) (by omega) (by omega) (by omega)
 have f:=Wm (x:=b.1) (y:=a.2) (by omega) (by omega) (by omega) (by omega)
 have g:=Wm (x:=a.2) (y:=b.2) (by omega) (by omega) (by omega) (by omega)
 have h:=Int.mul_pos c.pos d.pos
 refine ⟨?_,by omega,by omega⟩
 rw[w9,ZGa c d]
 show make (wr (wr (a.1*b.2) - wr (b.1*a.2))) (wr (a.2*b.2))=_
 rw[zI (n:=a.1*b.2) (by unfold Fit;omega),zI (n:=b.1*a.2) (by unfold Fit;omega),zI (n:=a.1*b.2 - b.1*a.2) (by unfold Fit;omega),zI (n:=a.2*b.2) (by unfold Fit;omega)]
theorem KGa {a b:zF} (c:Lo a) (d:Lo b) (h0:0<b.1):XY a b=make (a.1*b.2) (a.2*b.1)/\(-9223372036854775807<=a.1*b.2/\a.1*b.2<=9223372036854775807)/\(0<a.2*b.1/\a.2*b.1<=9223372036854775807):=by
 have:=c.num;have:=c.den;have:=c.pos;have:=d.num;have:=d.den;have:=d.pos
 have e:=Wm (x:=a.1) (y:=b.2) (by omega) (by omega) (by omega) (by omega)
 have f:=Wm (x:=a.2) (y:=b.1) (by omega) (by omega) (by omega) (by omega)
 have g:=Int.mul_pos c.pos h0
 refine ⟨?_,by omega,by omega⟩
 rw[XY,ZGa c d]
 show make (wr (a.1*b.2)) (wr (a.2*b.1))=_
 rw[zI (n:=a.1*b.2) (by unfold Fit;omega),zI (n:=a.2*b.1) (by unfold Fit;omega)]
theorem k8a:Lo (0,1):=⟨by decide,by decide,by decide,by decide⟩
theorem wS {lo a x:Int} {l:List Int} (h:yK lo a l=true) (b:x∈l):lo<=x/\x<=a:=by
 have h':(!l.any (W5 lo a))=true:=h
 simp only[Bool.not_eq_true',List.any_eq_false] at h'
 have:=h' x b
 simp[W5] at this
 omega
theorem jca {s:Setup} (h:zw s=true):0<=s.fault/\s.fault<=86400:=by
 simp only[zw,kZ,Bool.and_eq_true] at h
 exact wS h.1.2.1.1.2 (by simp)
def vU (a:zF) (b:Int) (d:zF × Int):PerfV:=if d.2=0 then ⟨a,b,d.1,0⟩ else ⟨(0,0),b,(0,0),d.2⟩
def xL (F:Int) (z S:zF × Int) (f:Int) (m:Nat):PerfV:=
 let e:=qa z S
 let d:=qa ((0,1),e.2) (make (wr (F*(m:Int))) 1)
 let c:=qa e d
 let b:=if c.2=0 then qa c (w9 S.1 d.1) else c
 let a:=if b.2=0/\b.1.1<0 then ((0,1),b.2) else b
 let done:=if f>0/\a.2=0 then qa (qa ((0,1),a.2) (make f 1)) (XY a.1 (make f 1).1) else ((0,1),a.2)
 vU a.1 f done
def KHa (k:Int) (segs:List Seg):List Seg:=segs.filter (jx k)
def ZHa (k:Int) (segs:List Seg):Int:=(KHa k segs).foldl (λn g=>wr (n+wr (g.to_ - g.from_))) 0
def KIa (s:Setup) (events:List Ev) (k:Int) (segs:List Seg):List zF:=(KHa k segs).map λg=>(jM s (xm events g)).1
def KJa (s:Setup) (events:List Ev) (k:Int) (segs:List Seg):zF × Int:=(KHa k segs).foldl (λz g=>qa z ((0,1),(jM s (xm events g)).2)) ((0,1),0)
theorem ZIa {s:Setup} {events:List Ev} {segs:List Seg} {k:Int}:YO s events segs k=xL s.fault (KJa s events k segs) (wI (KIa s events k segs)) (ZHa k segs) (jB events k):=rfl
def vA (p:zF):zF:=if p.1<0 then (0,1) else p
structure FinOk (F:Int) (z S:zF × Int) (el:Int) (m:Nat) (D:zF):Prop where
 z0:z.2=0
 s0:S.2=0
 slo:Lo S.1
 lo:Lo D
 eq:D.1*S.1.2=(S.1.1 - F*m*S.1.2)*D.2
 bd:F*m<=2147483647
 earned:(xL F z S el m).earned=vA D
 some:0<el->el<=2147483647/\XY (vA D) (el,1)=((xL F z S el m).perf,0)
 none:¬ 0<el->(xL F z S el m).perf=(0,1)
theorem KKa {F:Int} {z S:zF × Int} {j:Int} {m:Nat} (u:0<=F/\F<=86400) (A:m<2097152) (q:Fit j) (h:(xL F z S j m).err=0):∃D,FinOk F z S j m D:=by
 have r: -9223372036854775807<=F*(m:Int)/\F*(m:Int)<=9223372036854775807:=by
  have G:=Int.mul_nonneg u.1 (show (0:Int)<=m by omega)
  have B:=Int.mul_le_mul u.2 (show (m:Int)<=2097152 by omega) (by omega) (by omega)
  omega
 have i:wr (F*(m:Int))=F*m:=zI (by unfold Fit;omega)
 by_cases d:z.2=0
 rotate_left
 ·simp[xL,vU,qa,d] at h
 by_cases e:S.2=0
 rotate_left
 ·simp[xL,vU,qa,d,e] at h
 by_cases f:(make (F*(m:Int)) 1).2=0
 rotate_left
 ·simp[xL,vU,qa,d,e,i,f] at h
 obtain ⟨E,c⟩:=KD r f
 by_cases g:(w9 S.1 (F*(m:Int),1)).2=0
 rotate_left
 ·simp[xL,vU,qa,d,e,i,f,c,g] at h
 obtain ⟨y,x,H⟩:=KEa g
 have t:=ZFa y
 have l2:=ZFa x
 obtain ⟨v,s2,w⟩:=KFa t l2
 have n:=g
 rw[v] at n
 obtain ⟨k1,k2⟩:=zKa s2 w n
 rw[<-v] at k1 k2
 refine ⟨(w9 S.1 (F*(m:Int),1)).1,d,e,t,k1,by simp only at k2;grind,by omega,?_,?_,?_⟩
 ·by_cases a:(w9 S.1 (F*(m:Int),1)).1.1<0
  ·by_cases b:0<j
   ·simp[xL,vU,qa,d,e,i,f,c,g,a,b] at h⊢
    split at h
    ·simp_all
     split at h<;>simp_all [vA]
    ·simp_all
   ·simp[xL,vU,qa,d,e,i,f,c,g,a,b,vA]
  ·by_cases b:0<j
   ·simp[xL,vU,qa,d,e,i,f,c,g,a,b] at h⊢
    split at h
    ·simp_all
     split at h<;>simp_all [vA]
     omega
    ·simp_all
   ·simp[xL,vU,qa,d,e,i,f,c,g,a,b,vA]
 ·intro b
  by_cases k:(make j 1).2=0
  rotate_left
  ·by_cases a:(w9 S.1 (F*(m:Int),1)).1.1<0
   ·simp[xL,vU,qa,d,e,i,f,c,g,a,b,k] at h
   ·simp[xL,vU,qa,d,e,i,f,c,g,a,b,k] at h
  have p: -9223372036854775807<=j/\j<=9223372036854775807:=by unfold Fit at q;omega
  obtain ⟨C,o⟩:=KD p k
  refine ⟨by omega,?_⟩
  by_cases a:(w9 S.1 (F*(m:Int),1)).1.1<0
  ·have s:vA (w9 S.1 (F*(m:Int),1)).1=(0,1):=by simp[vA,a]
   rw[s]
   by_cases l:(XY (0,1) (j,1)).2=0
   ·simp[xL,vU,qa,d,e,i,f,c,g,a,b,k,o,l]
    exact Prod.ext rfl l
   ·simp[xL,vU,qa,d,e,i,f,c,g,a,b,k,o,l] at h
  ·have s:vA (w9 S.1 (F*(m:Int),1)).1=(w9 S.1 (F*(m:Int),1)).1:=by simp[vA,a]
   rw[s]
   by_cases l:(XY (w9 S.1 (F*(m:Int),1)).1 (j,1)).2=0
   ·simp[xL,vU,qa,d,e,i,f,c,g,a,b,k,o,l]
    exact Prod.ext rfl l
   ·simp[xL,vU,qa,d,e,i,f,c,g,a,b,k,o,l] at h
 ·intro b
  by_cases a:(w9 S.1 (F*(m:Int),1)).1.1<0
  ·simp[xL,vU,qa,d,e,i,f,c,g,a,b]
  ·simp[xL,vU,qa,d,e,i,f,c,g,a,b]
theorem ZJa {p:zF} (h:Lo p):Lo (vA p)/\0<=(vA p).1:=by
 unfold vA
 split
 ·exact ⟨k8a,by decide⟩
 ·exact ⟨h,by omega⟩
theorem KLa {s:Setup} {w:Int} {l:List Ev}:Xl s w l=zD (l.filter λe=> !Zv s w e):=by rw[Xl,vb]
theorem xZa {s:Setup} {w k:Int} {l:List Ev}:jB (Xl s w l) k=((l.filter λe=> !Zv s w e).filter (kp k)).length:=by
 rw[jB,KLa]
 exact ((jJ _).filter _).length_eq
theorem KMa {p:zF} (h:Lo p):qj p:=by
 have:=h.num;have:=h.den;have:=h.pos
 exact ⟨by unfold Fit;omega,by unfold Fit;omega⟩
theorem JAa {F:Int} {z S:zF × Int} {a:Int} {m:Nat} (g:0<=F/\F<=86400) (f:m<2097152) (b:Fit a) (h:(xL F z S a m).err=0):Lo (xL F z S a m).earned/\Lo (xL F z S a m).perf:=by
 obtain ⟨D,d⟩:=KKa g f b h
 have c:=(ZJa d.lo).1
 rw[d.earned]
 refine ⟨c,?_⟩
 by_cases e:0<a
 ·obtain ⟨n1,n2⟩:=d.some e
  have i:Lo (a,1):=⟨by simp,by simp,by simp only;omega,by simp⟩
  obtain ⟨a1,a2,a3⟩:=KGa c i e
  rw[a1] at n2
  have:=(zKa a2 a3 (by rw[n2])).1
  rw[n2] at this
  exact this
 ·rw[d.none e];exact k8a
theorem ZKa {k:Int} {segs:List Seg}:Fit (ZHa k segs):=by
 unfold ZHa
 have:∀(L:List Seg) (n:Int),Fit n->Fit (L.foldl (λn g=>wr (n+wr (g.to_ - g.from_))) n):=λL=>by
  induction L with
  | nil=>exact λn h=>h
  | cons g L a=>exact λn _=>a _ (kI _)
 exact this _ _ (by unfold Fit;omega)
theorem wya {s:Setup} {w k:Int} {l:List Ev}:jB (Xl s w l) k<=l.length:=by
 rw[xZa]
 exact Nat.le_trans (List.length_filter_le _ _) (List.length_filter_le _ _)
theorem JBa {s:Setup} {l:List Ev} {w k:Int} (a:zw s=true) (b:l.length<2097151) (h:(wR s l w k).err=0):Lo (wR s l w k).earned/\Lo (wR s l w k).perf:=by
 rw[wR,if_pos a,ZIa] at h⊢
 have:=wya (s:=s) (w:=w) (k:=k) (l:=l)
 exact JAa (jca a) (by omega) ZKa h
end Go.Proofs.YtfmldcilgbbimaaGreat.Ax
