import Derived.Test.YtigdlmpjijhpaaaGreatKA
import Derived.Test.YtigdlmpjijhpaaaGreatK28
set_option linter.all false
namespace Go.Proofs.YtigdlmpjijhpaaaGreat.Ax
open Go Go.Proofs
structure Lo (p:qd):Prop where
 pos:0<p.2
 cop:Int.gcd p.1 p.2=1
 num: -2147483647<=p.1/\p.1<=2147483647
 den:p.2<=2147483647
theorem k5a{a b g c:Int}(h:a*c=g*b)(d:Int.gcd a b=1):b∣c:=by
 have f:b.natAbs∣a.natAbs*c.natAbs:=by
  rw[<-Int.natAbs_mul,h,Int.natAbs_mul]
  exact Nat.dvd_mul_left _ _
 have e:Nat.Coprime b.natAbs a.natAbs:=by
  have:Nat.gcd a.natAbs b.natAbs=1:=d
  rw[Nat.Coprime,Nat.gcd_comm];exact this
 exact Int.natAbs_dvd_natAbs.1 (e.dvd_of_dvd_mul_left f)
theorem ZAa{a b f c:Int}(l:0<b)(i:0<c)(g:Int.gcd a b=1)(d:Int.gcd f c=1)(h:a*c=f*b):a=f/\b=c:=by
 have k:=k5a h g
 have j:=k5a h.symm d
 have e:b=c:=Int.dvd_antisymm (by omega) (by omega) k j
 subst e
 exact⟨Int.eq_of_mul_eq_mul_right (by omega) h,rfl⟩
theorem jna{n:Int}(h: -9223372036854775807<=n/\n<=9223372036854775807):(QC n).toNat=n.natAbs:=by
 unfold QC
 split
 ·omega
 ·split
  ·rw[qb (by unfold Fit;omega)];omega
  ·omega
theorem Wu{n d:Int}(s: -9223372036854775807<=n/\n<=9223372036854775807)(q:0<d/\d<=9223372036854775807):
  ∃a b g:Int,0<g/\n=g*a/\d=g*b/\0<b/\Int.gcd a b=1/\make n d=if a>2147483647∨a< -2147483647∨b>2147483647 then((0,0),10) else((a,b),0):=by
 have k:¬ d<=0:=by omega
 by_cases h0:n=0
 ·refine⟨0,1,d,q.1,by omega,by omega,by omega,by decide,?_⟩
  rw[make,if_neg k,if_pos h0];rfl
 ·have o:K5 n d=(Int.gcd n d:Int):=by
   unfold K5
   rw[jna s,jna (by omega)];rfl
  have p:0<Int.gcd n d:=Int.gcd_pos_of_ne_zero_left _ h0
  obtain⟨a,f⟩:=Int.gcd_dvd_left n d
  obtain⟨b,j⟩:=Int.gcd_dvd_right n d
  obtain⟨g,m⟩:∃g:Nat,g=Int.gcd n d:=⟨_,rfl⟩
  rw[<-m] at o p f j
  have i:(0:Int)<g:=by omega
  have l:0<b:=by
   rcases Int.lt_or_le 0 b with h|h
   ·exact h
   ·have:=Int.mul_le_mul_of_nonneg_left h (Int.le_of_lt i)
    omega
  have c:Int.gcd a b=1:=by
   have e:Int.gcd ((g:Int)*a) ((g:Int)*b)=g*Int.gcd a b:=by
    rw[Int.gcd_mul_left];simp
   rw[<-f, <-j, <-m] at e
   have:g*1=g*Int.gcd a b:=by omega
   exact(Nat.eq_of_mul_eq_mul_left p this).symm
  have u:n.tdiv (g:Int)=a:=by rw[f];exact Int.mul_tdiv_cancel_left a (by omega)
  have r:d.tdiv (g:Int)=b:=by rw[j];exact Int.mul_tdiv_cancel_left b (by omega)
  have v: -9223372036854775807<=a/\a<=9223372036854775807:=by
   have t:a.natAbs<=n.natAbs:=by
    rw[f,Int.natAbs_mul]
    exact Nat.le_mul_of_pos_left _ (by omega)
   omega
  have w:b<=9223372036854775807:=by
   have t:b.natAbs<=d.natAbs:=by
    rw[j,Int.natAbs_mul]
    exact Nat.le_mul_of_pos_left _ (by omega)
   omega
  refine⟨a,b,g,i,f,j,l,c,?_⟩
  rw[make,if_neg k,if_neg h0,o,u,r,qb (by unfold Fit;omega),qb (by unfold Fit;omega)]
theorem Vj{n d:Int}(k: -9223372036854775807<=n/\n<=9223372036854775807)(c:0<d/\d<=9223372036854775807)(h:(make n d).2=0):
  Lo (make n d).1/\(make n d).1.1*d=n*(make n d).1.2:=by
 obtain⟨a,b,g,o,f,i,m,l,e⟩:=Wu k c
 rw[e] at h⊢
 split at h
 ·exact absurd h (by decide)
 ·rename_i j
  rw[if_neg j]
  refine⟨⟨m,l,by simp only;omega,by simp only;omega⟩,?_⟩
  simp only
  rw[f,i];grind
theorem Jla{p:qd}(h:Lo p):make p.1 p.2=(p,0):=by
 have:=h.num;have:=h.den;have:=h.pos
 obtain⟨a,b,g,m,f,i,l,k,e⟩:=Wu (n:=p.1) (d:=p.2) (by omega) (by omega)
 obtain⟨j,c⟩:=ZAa h.pos l h.cop k (by rw[f,i];grind)
 rw[e, <-j, <-c,if_neg (by omega)]
theorem ZBa{p:qd}(h:Lo p):rok p=true:=by simp[rok,Jla h]
theorem ZCa{p:qd}(h:rok p=true):make p.1 p.2=(p,0):=by
 simp only[rok,zj,beq_iff_eq] at h
 exact Prod.ext (Prod.ext h.2.1 h.2.2) h.1
theorem ZDa{p:qd}(h:rok p=true):Lo p:=by
 obtain⟨⟨b1,b2⟩,b3,b4⟩:=Y0 h
 have e:=ZCa h
 have:=(Vj (n:=p.1) (d:=p.2) (by omega) (by omega) (by rw[e])).1
 rw[e] at this
 exact this
theorem KJ{n:Int}(j: -9223372036854775807<=n/\n<=9223372036854775807)(h:(make n 1).2=0):(-2147483647<=n/\n<=2147483647)/\(make n 1).1=(n,1):=by
 obtain⟨a,b,g,l,k,f,o,m,e⟩:=Wu j (d:=1) (by omega)
 have c:g=1:=by
  have:g∣1:=⟨b,f⟩
  exact Int.eq_one_of_dvd_one (by omega) this
 subst c
 rw[e] at h
 split at h
 ·exact absurd h (by decide)
 ·rename_i i
  rw[e,if_neg i]
  exact⟨by omega,by simp only[Prod.mk.injEq];omega⟩
theorem Kya{v:qd->qd->Int × Int}{a b:qd}(h:(yi v a b).2=0):rok a=true/\rok b=true/\yi v a b=make (v a b).1 (v a b).2:=by
 unfold yi at h⊢
 split at h
 ·rename_i c
  rw[if_pos c]
  simp only[zj] at c
  exact⟨c.1,c.2,rfl⟩
 ·exact absurd h (by decide)
theorem ZEa{v:qd->qd->Int × Int}{a b:qd}(c:Lo a)(d:Lo b):yi v a b=make (v a b).1 (v a b).2:=by
 rw[yi,if_pos (by simp[ZBa c,ZBa d])]
theorem Wv{x y:Int}(c: -2147483647<=x)(a:x<=2147483647)(b: -2147483647<=y)(d:y<=2147483647): -4611686014132420609<=x*y/\x*y<=4611686014132420609:=by
 have h:(x*y).natAbs<=2147483647*2147483647:=by
  rw[Int.natAbs_mul]
  exact Nat.mul_le_mul (by omega) (by omega)
 omega
theorem Kza{a b:qd}(d:Lo a)(c:Lo b):yV a b=make (a.1*b.2 - b.1*a.2) (a.2*b.2)/\(-9223372036854775807<=a.1*b.2 - b.1*a.2/\a.1*b.2 - b.1*a.2<=9223372036854775807)/\(0<a.2*b.2/\a.2*b.2<=9223372036854775807):=by
 have:=d.num;have:=d.den;have:=d.pos;have:=c.num;have:=c.den;have:=c.pos
 have h:=Wv (x:=a.1) (y:=b.2) (by omega) (by omega) (by omega) (by omega)
 have e:=Wv (x:=b.1) (y:=a.2) (by omega) (by omega) (by omega) (by omega)
 have g:=Wv (x:=a.2) (y:=b.2) (by omega) (by omega) (by omega) (by omega)
 have f:=Int.mul_pos d.pos c.pos
 refine⟨?_,by omega,by omega⟩
 rw[yV,ZEa d c]
 show make (wr (wr (a.1*b.2) - wr (b.1*a.2))) (wr (a.2*b.2))=_
 rw[qb (n:=a.1*b.2) (by unfold Fit;omega),qb (n:=b.1*a.2) (by unfold Fit;omega),qb (n:=a.1*b.2 - b.1*a.2) (by unfold Fit;omega),qb (n:=a.2*b.2) (by unfold Fit;omega)]
theorem ZFa{a b:qd}(c:Lo a)(d:Lo b)(h0:0<b.1):Kj a b=make (a.1*b.2) (a.2*b.1)/\(-9223372036854775807<=a.1*b.2/\a.1*b.2<=9223372036854775807)/\(0<a.2*b.1/\a.2*b.1<=9223372036854775807):=by
 have:=c.num;have:=c.den;have:=c.pos;have:=d.num;have:=d.den;have:=d.pos
 have g:=Wv (x:=a.1) (y:=b.2) (by omega) (by omega) (by omega) (by omega)
 have f:=Wv (x:=a.2) (y:=b.1) (by omega) (by omega) (by omega) (by omega)
 have e:=Int.mul_pos c.pos h0
 refine⟨?_,by omega,by omega⟩
 rw[Kj,ZEa c d]
 show make (wr (a.1*b.2)) (wr (a.2*b.1))=_
 rw[qb (n:=a.1*b.2) (by unfold Fit;omega),qb (n:=a.2*b.1) (by unfold Fit;omega)]
theorem k6a:Lo (0,1):=⟨by decide,by decide,by decide,by decide⟩
theorem vC{lo hi x:Int}{l:List Int}(h:Zu lo hi l=true)(a:x∈l):lo<=x/\x<=hi:=by
 have h':(!l.any (Yb lo hi))=true:=h
 simp only[Bool.not_eq_true',List.any_eq_false] at h'
 have:=h' x a
 simp[Yb] at this
 omega
theorem KL{s:Setup}(h:qo s=true):0<=s.fault/\s.fault<=86400:=by
 simp only[qo,vY,zj] at h
 exact vC h.1.2.1.1.2 (by simp)
def vh(a:qd)(b:Int)(d:qd × Int):PerfV:=if d.2=0 then⟨a,b,d.1,0⟩ else⟨(0,0),b,(0,0),d.2⟩
theorem wDa{a:qd}{b:Int}{d:qd × Int}:(vh a b d).eligible=b:=by unfold vh;split<;>rfl
theorem ZGa{a:qd}{b:Int}{d:qd × Int}(h:(vh a b d).err≠0):(vh a b d).earned=(0,0)/\(vh a b d).perf=(0,0):=by
 unfold vh at h⊢
 split at h
 ·exact absurd rfl h
 ·rename_i c
  rw[if_neg c]
  exact⟨rfl,rfl⟩
def jX(F:Int)(z S:qd × Int)(f:Int)(m:Nat):PerfV:=
 let d:=qQ z S
 let e:=qQ ((0,1),d.2) (make (wr (F*(m:Int))) 1)
 let c:=qQ d e
 let b:=if c.2=0 then qQ c (yV S.1 e.1) else c
 let a:=if b.2=0/\b.1.1<0 then((0,1),b.2) else b
 let done:=if f>0/\a.2=0 then qQ (qQ ((0,1),a.2) (make f 1)) (Kj a.1 (make f 1).1) else((0,1),a.2)
 vh a.1 f done
def Jma(k:Int)(segs:List Seg):List Seg:=segs.filter (xh k)
def joa(k:Int)(segs:List Seg):Int:=(Jma k segs).foldl (λn g=>wr (n+wr (g.to_ - g.from_))) 0
def KAa(s:Setup)(events:List Ev)(k:Int)(segs:List Seg):List qd:=(Jma k segs).map λg=>(kF s (yP events g)).1
def KBa(s:Setup)(events:List Ev)(k:Int)(segs:List Seg):qd × Int:=(Jma k segs).foldl (λz g=>qQ z ((0,1),(kF s (yP events g)).2)) ((0,1),0)
theorem Ww{s:Setup}{events:List Ev}{segs:List Seg}{k:Int}:jma s events segs k=jX s.fault (KBa s events k segs) (wU (KAa s events k segs)) (joa k segs) (kV events k):=rfl
theorem ZHa{F:Int}{z S:qd × Int}{a:Int}{m:Nat}:(jX F z S a m).eligible=a:=wDa
def vL(p:qd):qd:=if p.1<0 then(0,1) else p
theorem Jna{F:Int}{z S:qd × Int}{a:Int}{m:Nat}(h:(jX F z S a m).err≠0):(jX F z S a m).earned=(0,0)/\(jX F z S a m).perf=(0,0):=ZGa h
structure FinOk (F:Int) (z S:qd × Int) (el:Int) (m:Nat) (D:qd):Prop where
 z0:z.2=0
 s0:S.2=0
 slo:Lo S.1
 lo:Lo D
 eq:D.1*S.1.2=(S.1.1 - F*m*S.1.2)*D.2
 bd:F*m<=2147483647
 earned:(jX F z S el m).earned=vL D
 some:0<el->el<=2147483647/\Kj (vL D) (el,1)=((jX F z S el m).perf,0)
 none:¬ 0<el->(jX F z S el m).perf=(0,1)
theorem ZIa{F:Int}{z S:qd × Int}{j:Int}{m:Nat}(u:0<=F/\F<=86400)(B:m<2097152)(r:Fit j)(h:(jX F z S j m).err=0):∃D,FinOk F z S j m D:=by
 have s: -9223372036854775807<=F*(m:Int)/\F*(m:Int)<=9223372036854775807:=by
  have I:=Int.mul_nonneg u.1 (show(0:Int)<=m by omega)
  have E:=Int.mul_le_mul u.2 (show(m:Int)<=2097152 by omega) (by omega) (by omega)
  omega
 have i:wr (F*(m:Int))=F*m:=qb (by unfold Fit;omega)
 by_cases d:z.2=0
 rotate_left
 ·simp[jX,vh,qQ,d] at h
 by_cases e:S.2=0
 rotate_left
 ·simp[jX,vh,qQ,d,e] at h
 by_cases f:(make (F*(m:Int)) 1).2=0
 rotate_left
 ·simp[jX,vh,qQ,d,e,i,f] at h
 obtain⟨G,c⟩:=KJ s f
 by_cases g:(yV S.1 (F*(m:Int),1)).2=0
 rotate_left
 ·simp[jX,vh,qQ,d,e,i,f,c,g] at h
 obtain⟨x,A,H⟩:=Kya g
 have t:=ZDa x
 have l2:=ZDa A
 obtain⟨v,w,y⟩:=Kza t l2
 have n:=g
 rw[v] at n
 obtain⟨k1,k2⟩:=Vj w y n
 rw[<-v] at k1 k2
 refine⟨(yV S.1 (F*(m:Int),1)).1,d,e,t,k1,by simp only at k2;grind,by omega,?_,?_,?_⟩
 ·by_cases a:(yV S.1 (F*(m:Int),1)).1.1<0
  ·by_cases b:0<j
   ·simp[jX,vh,qQ,d,e,i,f,c,g,a,b] at h⊢
    split at h
    ·simp_all
     split at h<;>simp_all [vL]
    ·simp_all
   ·simp[jX,vh,qQ,d,e,i,f,c,g,a,b,vL]
  ·by_cases b:0<j
   ·simp[jX,vh,qQ,d,e,i,f,c,g,a,b] at h⊢
    split at h
    ·simp_all
     split at h<;>simp_all [vL]
     omega
    ·simp_all
   ·simp[jX,vh,qQ,d,e,i,f,c,g,a,b,vL]
 ·intro b
  by_cases l:(make j 1).2=0
  rotate_left
  ·by_cases a:(yV S.1 (F*(m:Int),1)).1.1<0
   ·simp[jX,vh,qQ,d,e,i,f,c,g,a,b,l] at h
   ·simp[jX,vh,qQ,d,e,i,f,c,g,a,b,l] at h
  have q: -9223372036854775807<=j/\j<=9223372036854775807:=by unfold Fit at r;omega
  obtain⟨C,o⟩:=KJ q l
  refine⟨by omega,?_⟩
  by_cases a:(yV S.1 (F*(m:Int),1)).1.1<0
  ·have p:vL (yV S.1 (F*(m:Int),1)).1=(0,1):=by simp[vL,a]
   rw[p]
   by_cases k:(Kj (0,1) (j,1)).2=0
   ·simp[jX,vh,qQ,d,e,i,f,c,g,a,b,l,o,k]
    exact Prod.ext rfl k
   ·simp[jX,vh,qQ,d,e,i,f,c,g,a,b,l,o,k] at h
  ·have p:vL (yV S.1 (F*(m:Int),1)).1=(yV S.1 (F*(m:Int),1)).1:=by simp[vL,a]
   rw[p]
   by_cases k:(Kj (yV S.1 (F*(m:Int),1)).1 (j,1)).2=0
   ·simp[jX,vh,qQ,d,e,i,f,c,g,a,b,l,o,k]
    exact Prod.ext rfl k
   ·simp[jX,vh,qQ,d,e,i,f,c,g,a,b,l,o,k] at h
 ·intro b
  by_cases a:(yV S.1 (F*(m:Int),1)).1.1<0
  ·simp[jX,vh,qQ,d,e,i,f,c,g,a,b]
  ·simp[jX,vh,qQ,d,e,i,f,c,g,a,b]
theorem jpa{p:qd}(h:Lo p):Lo (vL p)/\0<=(vL p).1:=by
 unfold vL
 split
 ·exact⟨k6a,by decide⟩
 ·exact⟨h,by omega⟩
theorem ZJa{s:Setup}{w:Int}{l:List Ev}:XJ s w l=qj (l.filter λe=> !Z6 s w e):=by rw[XJ,yl]
theorem x8a{s:Setup}{w k:Int}{l:List Ev}:kV (XJ s w l) k=((l.filter λe=> !Z6 s w e).filter (vZ k)).length:=by
 rw[kV,ZJa]
 exact((vB _).filter _).length_eq
theorem KCa{p:qd}(h:Lo p):jf p:=by
 have:=h.num;have:=h.den;have:=h.pos
 exact⟨by unfold Fit;omega,by unfold Fit;omega⟩
theorem Joa{F:Int}{z S:qd × Int}{a:Int}{m:Nat}(g:0<=F/\F<=86400)(i:m<2097152)(b:Fit a)(h:(jX F z S a m).err=0):Lo (jX F z S a m).earned/\Lo (jX F z S a m).perf:=by
 obtain⟨D,d⟩:=ZIa g i b h
 have c:=(jpa d.lo).1
 rw[d.earned]
 refine⟨c,?_⟩
 by_cases e:0<a
 ·obtain⟨n1,n2⟩:=d.some e
  have f:Lo (a,1):=⟨by simp,by simp,by simp only;omega,by simp⟩
  obtain⟨a1,a2,a3⟩:=ZFa c f e
  rw[a1] at n2
  have:=(Vj a2 a3 (by rw[n2])).1
  rw[n2] at this
  exact this
 ·rw[d.none e];exact k6a
theorem jqa{k:Int}{segs:List Seg}:Fit (joa k segs):=by
 unfold joa
 have:∀(L:List Seg) (n:Int),Fit n->Fit (L.foldl (λn g=>wr (n+wr (g.to_ - g.from_))) n):=λL=>by
  induction L with
  | nil=>exact λn h=>h
  | cons g L a=>exact λn _=>a _ (ky _)
 exact this _ _ (by unfold Fit;omega)
theorem Y5{s:Setup}{w k:Int}{l:List Ev}:kV (XJ s w l) k<=l.length:=by
 rw[x8a]
 exact Nat.le_trans (qt _ _) (qt _ _)
theorem Jpa{s:Setup}{l:List Ev}{w k:Int}(a:qo s=true)(b:l.length<2097151)(h:(vq s l w k).err=0):Lo (vq s l w k).earned/\Lo (vq s l w k).perf:=by
 rw[vq,if_pos a,Ww] at h⊢
 have:=Y5 (s:=s) (w:=w) (k:=k) (l:=l)
 exact Joa (KL a) (by omega) jqa h
