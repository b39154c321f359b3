/-
  Joined.
-/
import Derived.Test.YtfmldcilgbbimaaGreatK28
set_option linter.unusedSimpArgs false
set_option linter.unusedVariables false
namespace Go.Proofs.YtfmldcilgbbimaaGreat.Ax
open Go Go.Proofs
structure Lo (p:zx):Prop where
 pos:0<p.2
 cop:Int.gcd p.1 p.2=1
 num: -2147483647<=p.1/\p.1<=2147483647
 den:p.2<=2147483647
theorem qya {a b e c:Int} (h:a*c=e*b) (f:Int.gcd a b=1):b∣c:=by
 have g:b.natAbs∣a.natAbs*c.natAbs:=by
  rw[<-Int.natAbs_mul,h,Int.natAbs_mul]
  exact Nat.dvd_mul_left _ _
 have d:Nat.Coprime b.natAbs a.natAbs:=by
  have:Nat.gcd a.natAbs b.natAbs=1:=f
  rw[Nat.Coprime,Nat.gcd_comm];exact this
 exact Int.natAbs_dvd_natAbs.1 (d.dvd_of_dvd_mul_left g)
theorem kPa {a b d c:Int} (l:0<b) (k:0<c) (i:Int.gcd a b=1) (f:Int.gcd d c=1) (h:a*c=d*b):a=d/\b=c:=by
 have j:=qya h i
 have g:=qya h.symm f
 have e:b=c:=Int.dvd_antisymm (by omega) (by omega) j g
 subst e
 exact ⟨Int.eq_of_mul_eq_mul_right (by omega) h,rfl⟩
theorem Yg {n:Int} (h: -9223372036854775807<=n/\n<=9223372036854775807):(yG n).toNat=n.natAbs:=by
 unfold yG
 split
 ·omega
 ·split
  ·rw[zt (by unfold Fit;omega)];omega
  ·omega
theorem XZ {n d:Int} (u: -9223372036854775807<=n/\n<=9223372036854775807) (t:0<d/\d<=9223372036854775807):
  ∃a b g:Int,0<g/\n=g*a/\d=g*b/\0<b/\Int.gcd a b=1/\make n d=if a>2147483647∨a< -2147483647∨b>2147483647 then ((0,0),10) else ((a,b),0):=by
 have j:¬ d<=0:=by omega
 by_cases h0:n=0
 ·refine ⟨0,1,d,t.1,by omega,by omega,by omega,by decide,?_⟩
  rw[make,if_neg j,if_pos h0];rfl
 ·have p:JG n d=(Int.gcd n d:Int):=by
   unfold JG
   rw[Yg u,Yg (by omega)];rfl
  have o:0<Int.gcd n d:=Int.gcd_pos_of_ne_zero_left _ h0
  obtain ⟨a,i⟩:=Int.gcd_dvd_left n d
  obtain ⟨b,f⟩:=Int.gcd_dvd_right n d
  obtain ⟨g,m⟩:∃g:Nat,g=Int.gcd n d:=⟨_,rfl⟩
  rw[<-m] at p o i f
  have c:(0:Int)<g:=by omega
  have l:0<b:=by
   rcases Int.lt_or_le 0 b with h | h
   ·exact h
   ·have:=Int.mul_le_mul_of_nonneg_left h (Int.le_of_lt c)
    omega
  have k:Int.gcd a b=1:=by
   have e:Int.gcd ((g:Int)*a) ((g:Int)*b)=g*Int.gcd a b:=by
    rw[Int.gcd_mul_left];simp
   rw[<-i, <-f, <-m] at e
   have:g*1=g*Int.gcd a b:=by omega
   exact (Nat.eq_of_mul_eq_mul_left o this).symm
  have s:n.tdiv (g:Int)=a:=by rw[i];exact Int.mul_tdiv_cancel_left a (by omega)
  have q:d.tdiv (g:Int)=b:=by rw[f];exact Int.mul_tdiv_cancel_left b (by omega)
  have w: -9223372036854775807<=a/\a<=9223372036854775807:=by
   have r:a.natAbs<=n.natAbs:=by
    rw[i,Int.natAbs_mul]
    exact Nat.le_mul_of_pos_left _ (by omega)
   omega
  have v:b<=9223372036854775807:=by
   have r:b.natAbs<=d.natAbs:=by
    rw[f,Int.natAbs_mul]
    exact Nat.le_mul_of_pos_left _ (by omega)
   omega
  refine ⟨a,b,g,c,i,f,l,k,?_⟩
  rw[make,if_neg j,if_neg h0,p,s,q,zt (by unfold Fit;omega),zt (by unfold Fit;omega)]
theorem VX {n d:Int} (m: -9223372036854775807<=n/\n<=9223372036854775807) (k:0<d/\d<=9223372036854775807) (h:(make n d).2=0):
  Lo (make n d).1/\(make n d).1.1*d=n*(make n d).1.2:=by
 obtain ⟨a,b,g,o,c,l,i,j,e⟩:=XZ m k
 rw[e] at h⊢
 split at h
 ·exact absurd h (by decide)
 ·rename_i f
  rw[if_neg f]
  refine ⟨⟨i,j,by simp only;omega,by simp only;omega⟩,?_⟩
  simp only
  rw[c,l];grind
theorem wra {p:zx} (h:Lo p):make p.1 p.2=(p,0):=by
 have:=h.num;have:=h.den;have:=h.pos
 obtain ⟨a,b,g,m,c,l,i,j,e⟩:=XZ (n:=p.1) (d:=p.2) (by omega) (by omega)
 obtain ⟨k,f⟩:=kPa h.pos i h.cop j (by rw[c,l];grind)
 rw[e, <-k, <-f,if_neg (by omega)]
theorem kQa {p:zx} (h:Lo p):rok p=true:=by simp[rok,wra h]
theorem kRa {p:zx} (h:rok p=true):make p.1 p.2=(p,0):=by
 simp only[rok,Bool.and_eq_true,beq_iff_eq] at h
 exact Prod.ext (Prod.ext h.2.1 h.2.2) h.1
theorem kSa {p:zx} (h:rok p=true):Lo p:=by
 obtain ⟨⟨b1,b2⟩,b3,b4⟩:=Vd h
 have e:=kRa h
 have:=(VX (n:=p.1) (d:=p.2) (by omega) (by omega) (by rw[e])).1
 rw[e] at this
 exact this
theorem Js {n:Int} (j: -9223372036854775807<=n/\n<=9223372036854775807) (h:(make n 1).2=0):(-2147483647<=n/\n<=2147483647)/\(make n 1).1=(n,1):=by
 obtain ⟨a,b,g,o,k,i,l,m,e⟩:=XZ j (d:=1) (by omega)
 have f:g=1:=by
  have:g∣1:=⟨b,i⟩
  exact Int.eq_one_of_dvd_one (by omega) this
 subst f
 rw[e] at h
 split at h
 ·exact absurd h (by decide)
 ·rename_i c
  rw[e,if_neg c]
  exact ⟨by omega,by simp only[Prod.mk.injEq];omega⟩
theorem y9a {v:zx->zx->Int × Int} {a b:zx} (h:(vi v a b).2=0):rok a=true/\rok b=true/\vi v a b=make (v a b).1 (v a b).2:=by
 unfold vi at h⊢
 split at h
 ·rename_i c
  rw[if_pos c]
  simp only[Bool.and_eq_true] at c
  exact ⟨c.1,c.2,rfl⟩
 ·exact absurd h (by decide)
theorem kTa {v:zx->zx->Int × Int} {a b:zx} (c:Lo a) (d:Lo b):vi v a b=make (v a b).1 (v a b).2:=by
 rw[vi,if_pos (by simp[kQa c,kQa d])]
theorem X0 {x y:Int} (d: -2147483647<=x) (a:x<=2147483647) (b: -2147483647<=y) (c:y<=2147483647): -4611686014132420609<=x*y/\x*y<=4611686014132420609:=by
 have h:(x*y).natAbs<=2147483647*2147483647:=by
  rw[Int.natAbs_mul]
  exact Nat.mul_le_mul (by omega) (by omega)
 omega
theorem Zaa {a b:zx} (d:Lo a) (c:Lo b):vS a b=make (a.1*b.2 - b.1*a.2) (a.2*b.2)/\(-9223372036854775807<=a.1*b.2 - b.1*a.2/\a.1*b.2 - b.1*a.2<=9223372036854775807)/\(0<a.2*b.2/\a.2*b.2<=9223372036854775807):=by
 have:=d.num;have:=d.den;have:=d.pos;have:=c.num;have:=c.den;have:=c.pos
 have f:=X0 (x:=a.1) (y:=b.2) (by omega) (by omega) (by omega) (by omega)
 have e:=X0 (x:=b.1) (y:=a.2) (by omega) (by omega) (by omega) (by omega)
 have h:=X0 (x:=a.2) (y:=b.2) (by omega) (by omega) (by omega) (by omega)
 have g:=Int.mul_pos d.pos c.pos
 refine ⟨?_,by omega,by omega⟩
 rw[vS,kTa d c]
 show make (wr (wr (a.1*b.2) - wr (b.1*a.2))) (wr (a.2*b.2))=_
 rw[zt (n:=a.1*b.2) (by unfold Fit;omega),zt (n:=b.1*a.2) (by unfold Fit;omega),zt (n:=a.1*b.2 - b.1*a.2) (by unfold Fit;omega),zt (n:=a.2*b.2) (by unfold Fit;omega)]
theorem Zba {a b:zx} (c:Lo a) (d:Lo b) (h0:0<b.1):QZ a b=make (a.1*b.2) (a.2*b.1)/\(-9223372036854775807<=a.1*b.2/\a.1*b.2<=9223372036854775807)/\(0<a.2*b.1/\a.2*b.1<=9223372036854775807):=by
 have:=c.num;have:=c.den;have:=c.pos;have:=d.num;have:=d.den;have:=d.pos
 have e:=X0 (x:=a.1) (y:=b.2) (by omega) (by omega) (by omega) (by omega)
 have g:=X0 (x:=a.2) (y:=b.1) (by omega) (by omega) (by omega) (by omega)
 have f:=Int.mul_pos c.pos h0
 refine ⟨?_,by omega,by omega⟩
 rw[QZ,kTa c d]
 show make (wr (a.1*b.2)) (wr (a.2*b.1))=_
 rw[zt (n:=a.1*b.2) (by unfold Fit;omega),zt (n:=a.2*b.1) (by unfold Fit;omega)]
theorem qza:Lo (0,1):=⟨by decide,by decide,by decide,by decide⟩
theorem xo {lo a x:Int} {l:List Int} (h:wA lo a l=true) (b:x∈l):lo<=x/\x<=a:=by
 have h':(!l.any (Ks lo a))=true:=h
 simp only[Bool.not_eq_true',List.any_eq_false] at h'
 have:=h' x b
 simp[Ks] at this
 omega
theorem Yh {s:Setup} (h:zz s=true):0<=s.fault/\s.fault<=86400:=by
 simp only[zz,xM,Bool.and_eq_true] at h
 exact xo h.1.2.1.1.2 (by simp)
def kJ (a:zx) (b:Int) (d:zx × Int):PerfV:=if d.2=0 then ⟨a,b,d.1,0⟩ else ⟨(0,0),b,(0,0),d.2⟩
def jW (F:Int) (z S:zx × Int) (f:Int) (m:Nat):PerfV:=
 let d:=zN z S
 let e:=zN ((0,1),d.2) (make (wr (F*(m:Int))) 1)
 let c:=zN d e
 let b:=if c.2=0 then zN c (vS S.1 e.1) else c
 let a:=if b.2=0/\b.1.1<0 then ((0,1),b.2) else b
 let done:=if f>0/\a.2=0 then zN (zN ((0,1),a.2) (make f 1)) (QZ a.1 (make f 1).1) else ((0,1),a.2)
 kJ a.1 f done
def Zca (k:Int) (segs:List Seg):List Seg:=segs.filter (kU k)
def kUa (k:Int) (segs:List Seg):Int:=(Zca k segs).foldl (λn g=>wr (n+wr (g.to_ - g.from_))) 0
def Zda (s:Setup) (events:List Ev) (k:Int) (segs:List Seg):List zx:=(Zca k segs).map λg=>(jJ s (vM events g)).1
def Zea (s:Setup) (events:List Ev) (k:Int) (segs:List Seg):zx × Int:=(Zca k segs).foldl (λz g=>zN z ((0,1),(jJ s (vM events g)).2)) ((0,1),0)
theorem kVa {s:Setup} {events:List Ev} {segs:List Seg} {k:Int}:Yf s events segs k=jW s.fault (Zea s events k segs) (kQ (Zda s events k segs)) (kUa k segs) (jV events k):=rfl
def kw (p:zx):zx:=if p.1<0 then (0,1) else p
structure FinOk (F:Int) (z S:zx × Int) (el:Int) (m:Nat) (D:zx):Prop where
 z0:z.2=0
 s0:S.2=0
 slo:Lo S.1
 lo:Lo D
 eq:D.1*S.1.2=(S.1.1 - F*m*S.1.2)*D.2
 bd:F*m<=2147483647
 earned:(jW F z S el m).earned=kw D
 some:0<el->el<=2147483647/\QZ (kw D) (el,1)=((jW F z S el m).perf,0)
 none:¬ 0<el->(jW F z S el m).perf=(0,1)
theorem Zfa {F:Int} {z S:zx × Int} {j:Int} {m:Nat} (u:0<=F/\F<=86400) (G:m<2097152) (p:Fit j) (h:(jW F z S j m).err=0):∃D,FinOk F z S j m D:=by
 have q: -9223372036854775807<=F*(m:Int)/\F*(m:Int)<=9223372036854775807:=by
  have H:=Int.mul_nonneg u.1 (show (0:Int)<=m by omega)
  have B:=Int.mul_le_mul u.2 (show (m:Int)<=2097152 by omega) (by omega) (by omega)
  omega
 have i:wr (F*(m:Int))=F*m:=zt (by unfold Fit;omega)
 by_cases d:z.2=0
 rotate_left
 ·simp[jW,kJ,zN,d] at h
 by_cases e:S.2=0
 rotate_left
 ·simp[jW,kJ,zN,d,e] at h
 by_cases f:(make (F*(m:Int)) 1).2=0
 rotate_left
 ·simp[jW,kJ,zN,d,e,i,f] at h
 obtain ⟨E,c⟩:=Js q f
 by_cases g:(vS S.1 (F*(m:Int),1)).2=0
 rotate_left
 ·simp[jW,kJ,zN,d,e,i,f,c,g] at h
 obtain ⟨A,x,C⟩:=y9a g
 have v:=kSa A
 have l2:=kSa x
 obtain ⟨t,y,w⟩:=Zaa v l2
 have n:=g
 rw[t] at n
 obtain ⟨k1,k2⟩:=VX y w n
 rw[<-t] at k1 k2
 refine ⟨(vS S.1 (F*(m:Int),1)).1,d,e,v,k1,by simp only at k2;grind,by omega,?_,?_,?_⟩
 ·by_cases a:(vS S.1 (F*(m:Int),1)).1.1<0
  ·by_cases b:0<j
   ·simp[jW,kJ,zN,d,e,i,f,c,g,a,b] at h⊢
    split at h
    ·simp_all
     split at h<;>simp_all [kw]
    ·simp_all
   ·simp[jW,kJ,zN,d,e,i,f,c,g,a,b,kw]
  ·by_cases b:0<j
   ·simp[jW,kJ,zN,d,e,i,f,c,g,a,b] at h⊢
    split at h
    ·simp_all
     split at h<;>simp_all [kw]
     omega
    ·simp_all
   ·simp[jW,kJ,zN,d,e,i,f,c,g,a,b,kw]
 ·intro b
  by_cases l:(make j 1).2=0
  rotate_left
  ·by_cases a:(vS S.1 (F*(m:Int),1)).1.1<0
   ·simp[jW,kJ,zN,d,e,i,f,c,g,a,b,l] at h
   ·simp[jW,kJ,zN,d,e,i,f,c,g,a,b,l] at h
  have r: -9223372036854775807<=j/\j<=9223372036854775807:=by unfold Fit at p;omega
  obtain ⟨I,o⟩:=Js r l
  refine ⟨by omega,?_⟩
  by_cases a:(vS S.1 (F*(m:Int),1)).1.1<0
  ·have s:kw (vS S.1 (F*(m:Int),1)).1=(0,1):=by simp[kw,a]
   rw[s]
   by_cases k:(QZ (0,1) (j,1)).2=0
   ·simp[jW,kJ,zN,d,e,i,f,c,g,a,b,l,o,k]
    exact Prod.ext rfl k
   ·simp[jW,kJ,zN,d,e,i,f,c,g,a,b,l,o,k] at h
  ·have s:kw (vS S.1 (F*(m:Int),1)).1=(vS S.1 (F*(m:Int),1)).1:=by simp[kw,a]
   rw[s]
   by_cases k:(QZ (vS S.1 (F*(m:Int),1)).1 (j,1)).2=0
   ·simp[jW,kJ,zN,d,e,i,f,c,g,a,b,l,o,k]
    exact Prod.ext rfl k
   ·simp[jW,kJ,zN,d,e,i,f,c,g,a,b,l,o,k] at h
 ·intro b
  by_cases a:(vS S.1 (F*(m:Int),1)).1.1<0
  ·simp[jW,kJ,zN,d,e,i,f,c,g,a,b]
  ·simp[jW,kJ,zN,d,e,i,f,c,g,a,b]
theorem kWa {p:zx} (h:Lo p):Lo (kw p)/\0<=(kw p).1:=by
 unfold kw
 split
 ·exact ⟨qza,by decide⟩
 ·exact ⟨h,by omega⟩
theorem Zga {s:Setup} {w:Int} {l:List Ev}:JI s w l=zC (l.filter λe=> !yP s w e):=by rw[JI,Qw]
theorem zHa {s:Setup} {w k:Int} {l:List Ev}:jV (JI s w l) k=((l.filter λe=> !yP s w e).filter (xN k)).length:=by
 rw[jV,Zga]
 exact ((kE _).filter _).length_eq
theorem Zha {p:zx} (h:Lo p):zY p:=by
 have:=h.num;have:=h.den;have:=h.pos
 exact ⟨by unfold Fit;omega,by unfold Fit;omega⟩
theorem wsa {F:Int} {z S:zx × Int} {a:Int} {m:Nat} (i:0<=F/\F<=86400) (f:m<2097152) (b:Fit a) (h:(jW F z S a m).err=0):Lo (jW F z S a m).earned/\Lo (jW F z S a m).perf:=by
 obtain ⟨D,d⟩:=Zfa i f b h
 have c:=(kWa d.lo).1
 rw[d.earned]
 refine ⟨c,?_⟩
 by_cases e:0<a
 ·obtain ⟨n1,n2⟩:=d.some e
  have g:Lo (a,1):=⟨by simp,by simp,by simp only;omega,by simp⟩
  obtain ⟨a1,a2,a3⟩:=Zba c g e
  rw[a1] at n2
  have:=(VX a2 a3 (by rw[n2])).1
  rw[n2] at this
  exact this
 ·rw[d.none e];exact qza
theorem kXa {k:Int} {segs:List Seg}:Fit (kUa k segs):=by
 unfold kUa
 have:∀(L:List Seg) (n:Int),Fit n->Fit (L.foldl (λn g=>wr (n+wr (g.to_ - g.from_))) n):=λL=>by
  induction L with
  | nil=>exact λn h=>h
  | cons g L a=>exact λn _=>a _ (xw _)
 exact this _ _ (by unfold Fit;omega)
theorem jYa {s:Setup} {w k:Int} {l:List Ev}:jV (JI s w l) k<=l.length:=by
 rw[zHa]
 exact Nat.le_trans (List.length_filter_le _ _) (List.length_filter_le _ _)
theorem wta {s:Setup} {l:List Ev} {w k:Int} (a:zz s=true) (b:l.length<2097151) (h:(wj s l w k).err=0):Lo (wj s l w k).earned/\Lo (wj s l w k).perf:=by
 rw[wj,if_pos a,kVa] at h⊢
 have:=jYa (s:=s) (w:=w) (k:=k) (l:=l)
 exact wsa (Yh a) (by omega) kXa h
end Go.Proofs.YtfmldcilgbbimaaGreat.Ax
