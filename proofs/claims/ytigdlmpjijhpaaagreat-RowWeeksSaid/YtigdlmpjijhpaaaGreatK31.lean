/-
  Joined.
-/
import Derived.Test.YtigdlmpjijhpaaaGreatK28
set_option linter.unusedSimpArgs false
set_option linter.unusedVariables false
namespace Go.Proofs.YtigdlmpjijhpaaaGreat.Ax
open Go Go.Proofs
structure Lo (p:zy):Prop where
 pos:0<p.2
 cop:Int.gcd p.1 p.2=1
 num: -2147483647<=p.1/\p.1<=2147483647
 den:p.2<=2147483647
theorem qRa {a b d c:Int} (h:a*c=d*b) (f:Int.gcd a b=1):b∣c:=by
 have g:b.natAbs∣a.natAbs*c.natAbs:=by
  rw[<-Int.natAbs_mul,h,Int.natAbs_mul]
  exact Nat.dvd_mul_left _ _
 have e:Nat.Coprime b.natAbs a.natAbs:=by
  have:Nat.gcd a.natAbs b.natAbs=1:=f
  rw[Nat.Coprime,Nat.gcd_comm];exact this
 exact Int.natAbs_dvd_natAbs.1 (e.dvd_of_dvd_mul_left g)
theorem k8a {a b f c:Int} (l:0<b) (i:0<c) (j:Int.gcd a b=1) (d:Int.gcd f c=1) (h:a*c=f*b):a=f/\b=c:=by
 have k:=qRa h j
 have g:=qRa h.symm d
 have e:b=c:=Int.dvd_antisymm (by omega) (by omega) k g
 subst e
 exact ⟨Int.eq_of_mul_eq_mul_right (by omega) h,rfl⟩
theorem Yp {n:Int} (h: -9223372036854775807<=n/\n<=9223372036854775807):(yM n).toNat=n.natAbs:=by
 unfold yM
 split
 ·omega
 ·split
  ·rw[zF (by unfold Fit;omega)];omega
  ·omega
theorem X7 {n d:Int} (u: -9223372036854775807<=n/\n<=9223372036854775807) (q:0<d/\d<=9223372036854775807):
  ∃a b g:Int,0<g/\n=g*a/\d=g*b/\0<b/\Int.gcd a b=1/\make n d=if a>2147483647∨a< -2147483647∨b>2147483647 then ((0,0),10) else ((a,b),0):=by
 have j:¬ d<=0:=by omega
 by_cases h0:n=0
 ·refine ⟨0,1,d,q.1,by omega,by omega,by omega,by decide,?_⟩
  rw[make,if_neg j,if_pos h0];rfl
 ·have p:JO n d=(Int.gcd n d:Int):=by
   unfold JO
   rw[Yp u,Yp (by omega)];rfl
  have m:0<Int.gcd n d:=Int.gcd_pos_of_ne_zero_left _ h0
  obtain ⟨a,k⟩:=Int.gcd_dvd_left n d
  obtain ⟨b,f⟩:=Int.gcd_dvd_right n d
  obtain ⟨g,o⟩:∃g:Nat,g=Int.gcd n d:=⟨_,rfl⟩
  rw[<-o] at p m k f
  have i:(0:Int)<g:=by omega
  have l:0<b:=by
   rcases Int.lt_or_le 0 b with h | h
   ·exact h
   ·have:=Int.mul_le_mul_of_nonneg_left h (Int.le_of_lt i)
    omega
  have c:Int.gcd a b=1:=by
   have e:Int.gcd ((g:Int)*a) ((g:Int)*b)=g*Int.gcd a b:=by
    rw[Int.gcd_mul_left];simp
   rw[<-k, <-f, <-o] at e
   have:g*1=g*Int.gcd a b:=by omega
   exact (Nat.eq_of_mul_eq_mul_left m this).symm
  have t:n.tdiv (g:Int)=a:=by rw[k];exact Int.mul_tdiv_cancel_left a (by omega)
  have s:d.tdiv (g:Int)=b:=by rw[f];exact Int.mul_tdiv_cancel_left b (by omega)
  have v: -9223372036854775807<=a/\a<=9223372036854775807:=by
   have r:a.natAbs<=n.natAbs:=by
    rw[k,Int.natAbs_mul]
    exact Nat.le_mul_of_pos_left _ (by omega)
   omega
  have w:b<=9223372036854775807:=by
   have r:b.natAbs<=d.natAbs:=by
    rw[f,Int.natAbs_mul]
    exact Nat.le_mul_of_pos_left _ (by omega)
   omega
  refine ⟨a,b,g,i,k,f,l,c,?_⟩
  rw[make,if_neg j,if_neg h0,p,t,s,zF (by unfold Fit;omega),zF (by unfold Fit;omega)]
theorem V6 {n d:Int} (m: -9223372036854775807<=n/\n<=9223372036854775807) (f:0<d/\d<=9223372036854775807) (h:(make n d).2=0):
  Lo (make n d).1/\(make n d).1.1*d=n*(make n d).1.2:=by
 obtain ⟨a,b,g,o,k,c,l,j,e⟩:=X7 m f
 rw[e] at h⊢
 split at h
 ·exact absurd h (by decide)
 ·rename_i i
  rw[if_neg i]
  refine ⟨⟨l,j,by simp only;omega,by simp only;omega⟩,?_⟩
  simp only
  rw[k,c];grind
theorem wMa {p:zy} (h:Lo p):make p.1 p.2=(p,0):=by
 have:=h.num;have:=h.den;have:=h.pos
 obtain ⟨a,b,g,m,k,c,l,i,e⟩:=X7 (n:=p.1) (d:=p.2) (by omega) (by omega)
 obtain ⟨j,f⟩:=k8a h.pos l h.cop i (by rw[k,c];grind)
 rw[e, <-j, <-f,if_neg (by omega)]
theorem k9a {p:zy} (h:Lo p):rok p=true:=by simp[rok,wMa h]
theorem vaa {p:zy} (h:rok p=true):make p.1 p.2=(p,0):=by
 simp only[rok,Bool.and_eq_true,beq_iff_eq] at h
 exact Prod.ext (Prod.ext h.2.1 h.2.2) h.1
theorem vba {p:zy} (h:rok p=true):Lo p:=by
 obtain ⟨⟨b1,b2⟩,b3,b4⟩:=Vj h
 have e:=vaa h
 have:=(V6 (n:=p.1) (d:=p.2) (by omega) (by omega) (by rw[e])).1
 rw[e] at this
 exact this
theorem Jy {n:Int} (j: -9223372036854775807<=n/\n<=9223372036854775807) (h:(make n 1).2=0):(-2147483647<=n/\n<=2147483647)/\(make n 1).1=(n,1):=by
 obtain ⟨a,b,g,o,l,c,m,k,e⟩:=X7 j (d:=1) (by omega)
 have i:g=1:=by
  have:g∣1:=⟨b,c⟩
  exact Int.eq_one_of_dvd_one (by omega) this
 subst i
 rw[e] at h
 split at h
 ·exact absurd h (by decide)
 ·rename_i f
  rw[e,if_neg f]
  exact ⟨by omega,by simp only[Prod.mk.injEq];omega⟩
theorem Zya {v:zy->zy->Int × Int} {a b:zy} (h:(vZ v a b).2=0):rok a=true/\rok b=true/\vZ v a b=make (v a b).1 (v a b).2:=by
 unfold vZ at h⊢
 split at h
 ·rename_i c
  rw[if_pos c]
  simp only[Bool.and_eq_true] at c
  exact ⟨c.1,c.2,rfl⟩
 ·exact absurd h (by decide)
theorem vca {v:zy->zy->Int × Int} {a b:zy} (c:Lo a) (d:Lo b):vZ v a b=make (v a b).1 (v a b).2:=by
 rw[vZ,if_pos (by simp[k9a c,k9a d])]
theorem X8 {x y:Int} (a: -2147483647<=x) (c:x<=2147483647) (b: -2147483647<=y) (d:y<=2147483647): -4611686014132420609<=x*y/\x*y<=4611686014132420609:=by
 have h:(x*y).natAbs<=2147483647*2147483647:=by
  rw[Int.natAbs_mul]
  exact Nat.mul_le_mul (by omega) (by omega)
 omega
theorem Zza {a b:zy} (d:Lo a) (c:Lo b):wc a b=make (a.1*b.2 - b.1*a.2) (a.2*b.2)/\(-9223372036854775807<=a.1*b.2 - b.1*a.2/\a.1*b.2 - b.1*a.2<=9223372036854775807)/\(0<a.2*b.2/\a.2*b.2<=9223372036854775807):=by
 have:=d.num;have:=d.den;have:=d.pos;have:=c.num;have:=c.den;have:=c.pos
 have h:=X8 (x:=a.1) (y:=b.2) (by omega) (by omega) (by omega) (by omega)
 have g:=X8 (x:=b.1) (y:=a.2) (by omega) (by omega) (by omega) (by omega)
 have f:=X8 (x:=a.2) (y:=b.2) (by omega) (by omega) (by omega) (by omega)
 have e:=Int.mul_pos d.pos c.pos
 refine ⟨?_,by omega,by omega⟩
 rw[wc,vca d c]
 show make (wr (wr (a.1*b.2) - wr (b.1*a.2))) (wr (a.2*b.2))=_
 rw[zF (n:=a.1*b.2) (by unfold Fit;omega),zF (n:=b.1*a.2) (by unfold Fit;omega),zF (n:=a.1*b.2 - b.1*a.2) (by unfold Fit;omega),zF (n:=a.2*b.2) (by unfold Fit;omega)]
theorem ZAa {a b:zy} (c:Lo a) (d:Lo b) (h0:0<b.1):Q3 a b=make (a.1*b.2) (a.2*b.1)/\(-9223372036854775807<=a.1*b.2/\a.1*b.2<=9223372036854775807)/\(0<a.2*b.1/\a.2*b.1<=9223372036854775807):=by
 have:=c.num;have:=c.den;have:=c.pos;have:=d.num;have:=d.den;have:=d.pos
 have g:=X8 (x:=a.1) (y:=b.2) (by omega) (by omega) (by omega) (by omega)
 have f:=X8 (x:=a.2) (y:=b.1) (by omega) (by omega) (by omega) (by omega)
 have e:=Int.mul_pos c.pos h0
 refine ⟨?_,by omega,by omega⟩
 rw[Q3,vca c d]
 show make (wr (a.1*b.2)) (wr (a.2*b.1))=_
 rw[zF (n:=a.1*b.2) (by unfold Fit;omega),zF (n:=a.2*b.1) (by unfold Fit;omega)]
theorem qSa:Lo (0,1):=⟨by decide,by decide,by decide,by decide⟩
theorem vT {lo a x:Int} {l:List Int} (h:wG lo a l=true) (b:x∈l):lo<=x/\x<=a:=by
 have h':(!l.any (KA lo a))=true:=h
 simp only[Bool.not_eq_true',List.any_eq_false] at h'
 have:=h' x b
 simp[KA] at this
 omega
theorem Yq {s:Setup} (h:zE s=true):0<=s.fault/\s.fault<=86400:=by
 simp only[zE,xT,Bool.and_eq_true] at h
 exact vT h.1.2.1.1.2 (by simp)
def kR (a:zy) (b:Int) (d:zy × Int):PerfV:=if d.2=0 then ⟨a,b,d.1,0⟩ else ⟨(0,0),b,(0,0),d.2⟩
def j7 (F:Int) (z S:zy × Int) (f:Int) (m:Nat):PerfV:=
 let e:=zU z S
 let d:=zU ((0,1),e.2) (make (wr (F*(m:Int))) 1)
 let c:=zU e d
 let b:=if c.2=0 then zU c (wc S.1 d.1) else c
 let a:=if b.2=0/\b.1.1<0 then ((0,1),b.2) else b
 let done:=if f>0/\a.2=0 then zU (zU ((0,1),a.2) (make f 1)) (Q3 a.1 (make f 1).1) else ((0,1),a.2)
 kR a.1 f done
def ZBa (k:Int) (segs:List Seg):List Seg:=segs.filter (vb k)
def vda (k:Int) (segs:List Seg):Int:=(ZBa k segs).foldl (λn g=>wr (n+wr (g.to_ - g.from_))) 0
def ZCa (s:Setup) (events:List Ev) (k:Int) (segs:List Seg):List zy:=(ZBa k segs).map λg=>(xu s (wz events g)).1
def ZDa (s:Setup) (events:List Ev) (k:Int) (segs:List Seg):zy × Int:=(ZBa k segs).foldl (λz g=>zU z ((0,1),(xu s (wz events g)).2)) ((0,1),0)
theorem vea {s:Setup} {events:List Ev} {segs:List Seg} {k:Int}:k7a s events segs k=j7 s.fault (ZDa s events k segs) (vJ (ZCa s events k segs)) (vda k segs) (j6 events k):=rfl
def kB (p:zy):zy:=if p.1<0 then (0,1) else p
structure FinOk (F:Int) (z S:zy × Int) (el:Int) (m:Nat) (D:zy):Prop where
 z0:z.2=0
 s0:S.2=0
 slo:Lo S.1
 lo:Lo D
 eq:D.1*S.1.2=(S.1.1 - F*m*S.1.2)*D.2
 bd:F*m<=2147483647
 earned:(j7 F z S el m).earned=kB D
 some:0<el->el<=2147483647/\Q3 (kB D) (el,1)=((j7 F z S el m).perf,0)
 none:¬ 0<el->(j7 F z S el m).perf=(0,1)
theorem ZEa {F:Int} {z S:zy × Int} {j:Int} {m:Nat} (t:0<=F/\F<=86400) (C:m<2097152) (p:Fit j) (h:(j7 F z S j m).err=0):∃D,FinOk F z S j m D:=by
 have r: -9223372036854775807<=F*(m:Int)/\F*(m:Int)<=9223372036854775807:=by
  have G:=Int.mul_nonneg t.1 (show (0:Int)<=m by omega)
  have I:=Int.mul_le_mul t.2 (show (m:Int)<=2097152 by omega) (by omega) (by omega)
  omega
 have i:wr (F*(m:Int))=F*m:=zF (by unfold Fit;omega)
 by_cases d:z.2=0
 rotate_left
 ·simp[j7,kR,zU,d] at h
 by_cases e:S.2=0
 rotate_left
 ·simp[j7,kR,zU,d,e] at h
 by_cases g:(make (F*(m:Int)) 1).2=0
 rotate_left
 ·simp[j7,kR,zU,d,e,i,g] at h
 obtain ⟨H,c⟩:=Jy r g
 by_cases f:(wc S.1 (F*(m:Int),1)).2=0
 rotate_left
 ·simp[j7,kR,zU,d,e,i,g,c,f] at h
 obtain ⟨w,x,E⟩:=Zya f
 have v:=vba w
 have l2:=vba x
 obtain ⟨u,A,y⟩:=Zza v l2
 have n:=f
 rw[u] at n
 obtain ⟨k1,k2⟩:=V6 A y n
 rw[<-u] at k1 k2
 refine ⟨(wc S.1 (F*(m:Int),1)).1,d,e,v,k1,by simp only at k2;grind,by omega,?_,?_,?_⟩
 ·by_cases a:(wc S.1 (F*(m:Int),1)).1.1<0
  ·by_cases b:0<j
   ·simp[j7,kR,zU,d,e,i,g,c,f,a,b] at h⊢
    split at h
    ·simp_all
     split at h<;>simp_all [kB]
    ·simp_all
   ·simp[j7,kR,zU,d,e,i,g,c,f,a,b,kB]
  ·by_cases b:0<j
   ·simp[j7,kR,zU,d,e,i,g,c,f,a,b] at h⊢
    split at h
    ·simp_all
     split at h<;>simp_all [kB]
     omega
    ·simp_all
   ·simp[j7,kR,zU,d,e,i,g,c,f,a,b,kB]
 ·intro b
  by_cases k:(make j 1).2=0
  rotate_left
  ·by_cases a:(wc S.1 (F*(m:Int),1)).1.1<0
   ·simp[j7,kR,zU,d,e,i,g,c,f,a,b,k] at h
   ·simp[j7,kR,zU,d,e,i,g,c,f,a,b,k] at h
  have s: -9223372036854775807<=j/\j<=9223372036854775807:=by unfold Fit at p;omega
  obtain ⟨B,o⟩:=Jy s k
  refine ⟨by omega,?_⟩
  by_cases a:(wc S.1 (F*(m:Int),1)).1.1<0
  ·have q:kB (wc S.1 (F*(m:Int),1)).1=(0,1):=by simp[kB,a]
   rw[q]
   by_cases l:(Q3 (0,1) (j,1)).2=0
   ·simp[j7,kR,zU,d,e,i,g,c,f,a,b,k,o,l]
    exact Prod.ext rfl l
   ·simp[j7,kR,zU,d,e,i,g,c,f,a,b,k,o,l] at h
  ·have q:kB (wc S.1 (F*(m:Int),1)).1=(wc S.1 (F*(m:Int),1)).1:=by simp[kB,a]
   rw[q]
   by_cases l:(Q3 (wc S.1 (F*(m:Int),1)).1 (j,1)).2=0
   ·simp[j7,kR,zU,d,e,i,g,c,f,a,b,k,o,l]
    exact Prod.ext rfl l
   ·simp[j7,kR,zU,d,e,i,g,c,f,a,b,k,o,l] at h
 ·intro b
  by_cases a:(wc S.1 (F*(m:Int),1)).1.1<0
  ·simp[j7,kR,zU,d,e,i,g,c,f,a,b]
  ·simp[j7,kR,zU,d,e,i,g,c,f,a,b]
theorem vfa {p:zy} (h:Lo p):Lo (kB p)/\0<=(kB p).1:=by
 unfold kB
 split
 ·exact ⟨qSa,by decide⟩
 ·exact ⟨h,by omega⟩
theorem ZFa {s:Setup} {w:Int} {l:List Ev}:JP s w l=zx (l.filter λe=> !yX s w e):=by rw[JP,yi]
theorem zYa {s:Setup} {w k:Int} {l:List Ev}:j6 (JP s w l) k=((l.filter λe=> !yX s w e).filter (xV k)).length:=by
 rw[j6,ZFa]
 exact ((kK _).filter _).length_eq
theorem ZGa {p:zy} (h:Lo p):qa p:=by
 have:=h.num;have:=h.den;have:=h.pos
 exact ⟨by unfold Fit;omega,by unfold Fit;omega⟩
theorem wNa {F:Int} {z S:zy × Int} {a:Int} {m:Nat} (g:0<=F/\F<=86400) (i:m<2097152) (b:Fit a) (h:(j7 F z S a m).err=0):Lo (j7 F z S a m).earned/\Lo (j7 F z S a m).perf:=by
 obtain ⟨D,d⟩:=ZEa g i b h
 have c:=(vfa d.lo).1
 rw[d.earned]
 refine ⟨c,?_⟩
 by_cases e:0<a
 ·obtain ⟨n1,n2⟩:=d.some e
  have f:Lo (a,1):=⟨by simp,by simp,by simp only;omega,by simp⟩
  obtain ⟨a1,a2,a3⟩:=ZAa c f e
  rw[a1] at n2
  have:=(V6 a2 a3 (by rw[n2])).1
  rw[n2] at this
  exact this
 ·rw[d.none e];exact qSa
theorem vga {k:Int} {segs:List Seg}:Fit (vda k segs):=by
 unfold vda
 have:∀(L:List Seg) (n:Int),Fit n->Fit (L.foldl (λn g=>wr (n+wr (g.to_ - g.from_))) n):=λL=>by
  induction L with
  | nil=>exact λn h=>h
  | cons g L a=>exact λn _=>a _ (xC _)
 exact this _ _ (by unfold Fit;omega)
theorem xfa {s:Setup} {w k:Int} {l:List Ev}:j6 (JP s w l) k<=l.length:=by
 rw[zYa]
 exact Nat.le_trans (List.length_filter_le _ _) (List.length_filter_le _ _)
theorem wOa {s:Setup} {l:List Ev} {w k:Int} (a:zE s=true) (b:l.length<2097151) (h:(yz s l w k).err=0):Lo (yz s l w k).earned/\Lo (yz s l w k).perf:=by
 rw[yz,if_pos a,vea] at h⊢
 have:=xfa (s:=s) (w:=w) (k:=k) (l:=l)
 exact wNa (Yq a) (by omega) vga h
end Go.Proofs.YtigdlmpjijhpaaaGreat.Ax
