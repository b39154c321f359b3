import Derived.Test.YtigdlmpjijhpaaaGreatKA
import Derived.Test.YtigdlmpjijhpaaaGreatK28
set_option linter.all false
namespace Go.Proofs.YtigdlmpjijhpaaaGreat.Ax
open Go Go.Proofs
structure Lo (p:qx):Prop where
 pos:0<p.2
 cop:Int.gcd p.1 p.2=1
 num: -2147483647<=p.1/\p.1<=2147483647
 den:p.2<=2147483647
theorem yMa{a b d b':Int}(h:a*b'=d*b)(c:Int.gcd a b=1):b∣b':=by
 have e:b.natAbs∣a.natAbs*b'.natAbs:=by
  rw[<-Int.natAbs_mul,h,Int.natAbs_mul]
  exact Nat.dvd_mul_left _ _
 have f:Nat.Coprime b.natAbs a.natAbs:=by
  have:Nat.gcd a.natAbs b.natAbs=1:=c
  rw[Nat.Coprime,Nat.gcd_comm];exact this
 exact Int.natAbs_dvd_natAbs.1 (f.dvd_of_dvd_mul_left e)
theorem XLa{a b d b':Int}(k:0<b)(f:0<b')(i:Int.gcd a b=1)(c:Int.gcd d b'=1)(h:a*b'=d*b):a=d/\b=b':=by
 have j:=yMa h i
 have g:=yMa h.symm c
 have e:b=b':=Int.dvd_antisymm (by omega) (by omega) j g
 subst e
 exact⟨Int.eq_of_mul_eq_mul_right (by omega) h,rfl⟩
theorem kxa{n:Int}(h: -9223372036854775807<=n/\n<=9223372036854775807):(JW n).toNat=n.natAbs:=by
 unfold JW
 split
 ·omega
 ·split
  ·rw[qp (by unfold Fit;omega)];omega
  ·omega
theorem zsa{n d:Int}(t: -9223372036854775807<=n/\n<=9223372036854775807)(q:0<d/\d<=9223372036854775807):
  ∃a b g:Int,0<g/\n=g*a/\d=g*b/\0<b/\Int.gcd a b=1/\make n d=if a>2147483647∨a< -2147483647∨b>2147483647 then((0,0),10) else((a,b),0):=by
 have f:¬ d<=0:=by omega
 by_cases h0:n=0
 ·refine⟨0,1,d,q.1,by omega,by omega,by omega,by decide,?_⟩
  rw[make,if_neg f,if_pos h0];rfl
 ·have p:WW n d=(Int.gcd n d:Int):=by
   unfold WW
   rw[kxa t,kxa (by omega)];rfl
  have o:0<Int.gcd n d:=Int.gcd_pos_of_ne_zero_left _ h0
  obtain⟨a,k⟩:=Int.gcd_dvd_left n d
  obtain⟨b,c⟩:=Int.gcd_dvd_right n d
  obtain⟨g,m⟩:∃g:Nat,g=Int.gcd n d:=⟨_,rfl⟩
  rw[<-m] at p o k c
  have i:(0:Int)<g:=by omega
  have l:0<b:=by
   rcases Int.lt_or_le 0 b with h|h
   ·exact h
   ·have:=Int.mul_le_mul_of_nonneg_left h (Int.le_of_lt i)
    omega
  have j:Int.gcd a b=1:=by
   have e:Int.gcd ((g:Int)*a) ((g:Int)*b)=g*Int.gcd a b:=by
    rw[Int.gcd_mul_left];simp
   rw[<-k, <-c, <-m] at e
   have:g*1=g*Int.gcd a b:=by omega
   exact(Nat.eq_of_mul_eq_mul_left o this).symm
  have s:n.tdiv (g:Int)=a:=by rw[k];exact Int.mul_tdiv_cancel_left a (by omega)
  have r:d.tdiv (g:Int)=b:=by rw[c];exact Int.mul_tdiv_cancel_left b (by omega)
  have w: -9223372036854775807<=a/\a<=9223372036854775807:=by
   have u:a.natAbs<=n.natAbs:=by
    rw[k,Int.natAbs_mul]
    exact Nat.le_mul_of_pos_left _ (by omega)
   omega
  have v:b<=9223372036854775807:=by
   have u:b.natAbs<=d.natAbs:=by
    rw[c,Int.natAbs_mul]
    exact Nat.le_mul_of_pos_left _ (by omega)
   omega
  refine⟨a,b,g,i,k,c,l,j,?_⟩
  rw[make,if_neg f,if_neg h0,p,s,r,qp (by unfold Fit;omega),qp (by unfold Fit;omega)]
theorem Ya{n d:Int}(l: -9223372036854775807<=n/\n<=9223372036854775807)(j:0<d/\d<=9223372036854775807)(h:(make n d).2=0):
  Lo (make n d).1/\(make n d).1.1*d=n*(make n d).1.2:=by
 obtain⟨a,b,g,o,m,k,f,i,e⟩:=zsa l j
 rw[e] at h⊢
 split at h
 ·exact absurd h (by decide)
 ·rename_i c
  rw[if_neg c]
  refine⟨⟨f,i,by simp only;omega,by simp only;omega⟩,?_⟩
  simp only
  rw[m,k];grind
theorem V4a{p:qx}(h:Lo p):make p.1 p.2=(p,0):=by
 have:=h.num;have:=h.den;have:=h.pos
 obtain⟨a,b,g,m,j,i,c,f,e⟩:=zsa (n:=p.1) (d:=p.2) (by omega) (by omega)
 obtain⟨l,k⟩:=XLa h.pos c h.cop f (by rw[j,i];grind)
 rw[e, <-l, <-k,if_neg (by omega)]
theorem XMa{p:qx}(h:Lo p):rok p=true:=by simp[rok,V4a h]
theorem XNa{p:qx}(h:rok p=true):make p.1 p.2=(p,0):=by
 simp only[rok,zq,beq_iff_eq] at h
 exact Prod.ext (Prod.ext h.2.1 h.2.2) h.1
theorem XOa{p:qx}(h:rok p=true):Lo p:=by
 obtain⟨⟨b1,b2⟩,b3,b4⟩:=q1a h
 have e:=XNa h
 have:=(Ya (n:=p.1) (d:=p.2) (by omega) (by omega) (by rw[e])).1
 rw[e] at this
 exact this
theorem WD{n:Int}(f: -9223372036854775807<=n/\n<=9223372036854775807)(h:(make n 1).2=0):(-2147483647<=n/\n<=2147483647)/\(make n 1).1=(n,1):=by
 obtain⟨a,b,g,o,m,i,k,l,e⟩:=zsa f (d:=1) (by omega)
 have j:g=1:=by
  have:g∣1:=⟨b,i⟩
  exact Int.eq_one_of_dvd_one (by omega) this
 subst j
 rw[e] at h
 split at h
 ·exact absurd h (by decide)
 ·rename_i c
  rw[e,if_neg c]
  exact⟨by omega,by simp only[Prod.mk.injEq];omega⟩
theorem zsb{v:qx->qx->Int × Int}{a b:qx}(h:(Zp v a b).2=0):rok a=true/\rok b=true/\Zp v a b=make (v a b).1 (v a b).2:=by
 unfold Zp at h⊢
 split at h
 ·rename_i c
  rw[if_pos c]
  simp only[zq] at c
  exact⟨c.1,c.2,rfl⟩
 ·exact absurd h (by decide)
theorem XPa{v:qx->qx->Int × Int}{a b:qx}(d:Lo a)(c:Lo b):Zp v a b=make (v a b).1 (v a b).2:=by
 rw[Zp,if_pos (by simp[XMa d,XMa c])]
theorem zta{x y:Int}(a: -2147483647<=x)(b:x<=2147483647)(d: -2147483647<=y)(c:y<=2147483647): -4611686014132420609<=x*y/\x*y<=4611686014132420609:=by
 have h:(x*y).natAbs<=2147483647*2147483647:=by
  rw[Int.natAbs_mul]
  exact Nat.mul_le_mul (by omega) (by omega)
 omega
theorem ztb{a b:qx}(d:Lo a)(c:Lo b):ZW a b=make (a.1*b.2 - b.1*a.2) (a.2*b.2)/\(-9223372036854775807<=a.1*b.2 - b.1*a.2/\a.1*b.2 - b.1*a.2<=9223372036854775807)/\(0<a.2*b.2/\a.2*b.2<=9223372036854775807):=by
 have:=d.num;have:=d.den;have:=d.pos;have:=c.num;have:=c.den;have:=c.pos
 have f:=zta (x:=a.1) (y:=b.2) (by omega) (by omega) (by omega) (by omega)
 have h:=zta (x:=b.1) (y:=a.2) (by omega) (by omega) (by omega) (by omega)
 have e:=zta (x:=a.2) (y:=b.2) (by omega) (by omega) (by omega) (by omega)
 have g:=Int.mul_pos d.pos c.pos
 refine⟨?_,by omega,by omega⟩
 rw[ZW,XPa d c]
 show make (wr (wr (a.1*b.2) - wr (b.1*a.2))) (wr (a.2*b.2))=_
 rw[qp (n:=a.1*b.2) (by unfold Fit;omega),qp (n:=b.1*a.2) (by unfold Fit;omega),qp (n:=a.1*b.2 - b.1*a.2) (by unfold Fit;omega),qp (n:=a.2*b.2) (by unfold Fit;omega)]
theorem XQa{a b:qx}(c:Lo a)(d:Lo b)(h0:0<b.1):VY a b=make (a.1*b.2) (a.2*b.1)/\(-9223372036854775807<=a.1*b.2/\a.1*b.2<=9223372036854775807)/\(0<a.2*b.1/\a.2*b.1<=9223372036854775807):=by
 have:=c.num;have:=c.den;have:=c.pos;have:=d.num;have:=d.den;have:=d.pos
 have f:=zta (x:=a.1) (y:=b.2) (by omega) (by omega) (by omega) (by omega)
 have e:=zta (x:=a.2) (y:=b.1) (by omega) (by omega) (by omega) (by omega)
 have g:=Int.mul_pos c.pos h0
 refine⟨?_,by omega,by omega⟩
 rw[VY,XPa c d]
 show make (wr (a.1*b.2)) (wr (a.2*b.1))=_
 rw[qp (n:=a.1*b.2) (by unfold Fit;omega),qp (n:=a.2*b.1) (by unfold Fit;omega)]
theorem yNa:Lo (0,1):=⟨by decide,by decide,by decide,by decide⟩
theorem wx{lo hi x:Int}{l:List Int}(h:QA lo hi l=true)(a:x∈l):lo<=x/\x<=hi:=by
 have h':(!l.any (qia lo hi))=true:=h
 simp only[Bool.not_eq_true',List.any_eq_false] at h'
 have:=h' x a
 simp[qia] at this
 omega
theorem WE{s:Setup}(h:z6 s=true):0<=s.fault/\s.fault<=86400:=by
 simp only[z6,wZ,zq] at h
 exact wx h.1.2.1.1.2 (by simp)
def wc(a:qx)(b:Int)(d:qx × Int):PerfV:=if d.2=0 then⟨a,b,d.1,0⟩ else⟨(0,0),b,(0,0),d.2⟩
theorem Qva{a:qx}{b:Int}{d:qx × Int}:(wc a b d).eligible=b:=by unfold wc;split<;>rfl
theorem XRa{a:qx}{b:Int}{d:qx × Int}(h:(wc a b d).err≠0):(wc a b d).earned=(0,0)/\(wc a b d).perf=(0,0):=by
 unfold wc at h⊢
 split at h
 ·exact absurd rfl h
 ·rename_i c
  rw[if_neg c]
  exact⟨rfl,rfl⟩
def xx(F:Int)(z S:qx × Int)(f:Int)(m:Nat):PerfV:=
 let d:=jg z S
 let e:=jg ((0,1),d.2) (make (wr (F*(m:Int))) 1)
 let c:=jg d e
 let b:=if c.2=0 then jg c (ZW S.1 e.1) else c
 let a:=if b.2=0/\b.1.1<0 then((0,1),b.2) else b
 let done:=if f>0/\a.2=0 then jg (jg ((0,1),a.2) (make f 1)) (VY a.1 (make f 1).1) else((0,1),a.2)
 wc a.1 f done
def V5a(k:Int)(segs:List Seg):List Seg:=segs.filter (jI k)
def kya(k:Int)(segs:List Seg):Int:=(V5a k segs).foldl (λn g=>wr (n+wr (g.to_ - g.from_))) 0
def zub(s:Setup)(events:List Ev)(k:Int)(segs:List Seg):List qx:=(V5a k segs).map λg=>(xS s (vd events g)).1
def zvb(s:Setup)(events:List Ev)(k:Int)(segs:List Seg):qx × Int:=(V5a k segs).foldl (λz g=>jg z ((0,1),(xS s (vd events g)).2)) ((0,1),0)
theorem zua{s:Setup}{events:List Ev}{segs:List Seg}{k:Int}:WC s events segs k=xx s.fault (zvb s events k segs) (Za (zub s events k segs)) (kya k segs) (kx events k):=rfl
theorem XSa{F:Int}{z S:qx × Int}{a:Int}{m:Nat}:(xx F z S a m).eligible=a:=Qva
def wK(p:qx):qx:=if p.1<0 then(0,1) else p
theorem V6a{F:Int}{z S:qx × Int}{a:Int}{m:Nat}(h:(xx F z S a m).err≠0):(xx F z S a m).earned=(0,0)/\(xx F z S a m).perf=(0,0):=XRa h
structure FinOk (F:Int) (z S:qx × Int) (el:Int) (m:Nat) (D:qx):Prop where
 z0:z.2=0
 s0:S.2=0
 slo:Lo S.1
 lo:Lo D
 eq:D.1*S.1.2=(S.1.1 - F*m*S.1.2)*D.2
 bd:F*m<=2147483647
 earned:(xx F z S el m).earned=wK D
 some:0<el->el<=2147483647/\VY (wK D) (el,1)=((xx F z S el m).perf,0)
 none:¬ 0<el->(xx F z S el m).perf=(0,1)
theorem XTa{F:Int}{z S:qx × Int}{j:Int}{m:Nat}(t:0<=F/\F<=86400)(A:m<2097152)(p:Fit j)(h:(xx F z S j m).err=0):∃D,FinOk F z S j m D:=by
 have q: -9223372036854775807<=F*(m:Int)/\F*(m:Int)<=9223372036854775807:=by
  have C:=Int.mul_nonneg t.1 (show(0:Int)<=m by omega)
  have E:=Int.mul_le_mul t.2 (show(m:Int)<=2097152 by omega) (by omega) (by omega)
  omega
 have i:wr (F*(m:Int))=F*m:=qp (by unfold Fit;omega)
 by_cases d:z.2=0
 rotate_left
 ·simp[xx,wc,jg,d] at h
 by_cases e:S.2=0
 rotate_left
 ·simp[xx,wc,jg,d,e] at h
 by_cases f:(make (F*(m:Int)) 1).2=0
 rotate_left
 ·simp[xx,wc,jg,d,e,i,f] at h
 obtain⟨y,c⟩:=WD q f
 by_cases g:(ZW S.1 (F*(m:Int),1)).2=0
 rotate_left
 ·simp[xx,wc,jg,d,e,i,f,c,g] at h
 obtain⟨w,x,G⟩:=zsb g
 have v:=XOa w
 have l2:=XOa x
 obtain⟨u,s2,s3⟩:=ztb v l2
 have n:=g
 rw[u] at n
 obtain⟨k1,k2⟩:=Ya s2 s3 n
 rw[<-u] at k1 k2
 refine⟨(ZW S.1 (F*(m:Int),1)).1,d,e,v,k1,by simp only at k2;grind,by omega,?_,?_,?_⟩
 ·by_cases a:(ZW S.1 (F*(m:Int),1)).1.1<0
  ·by_cases b:0<j
   ·simp[xx,wc,jg,d,e,i,f,c,g,a,b] at h⊢
    split at h
    ·simp_all
     split at h<;>simp_all [wK]
    ·simp_all
   ·simp[xx,wc,jg,d,e,i,f,c,g,a,b,wK]
  ·by_cases b:0<j
   ·simp[xx,wc,jg,d,e,i,f,c,g,a,b] at h⊢
    split at h
    ·simp_all
     split at h<;>simp_all [wK]
     omega
    ·simp_all
   ·simp[xx,wc,jg,d,e,i,f,c,g,a,b,wK]
 ·intro b
  by_cases l:(make j 1).2=0
  rotate_left
  ·by_cases a:(ZW S.1 (F*(m:Int),1)).1.1<0
   ·simp[xx,wc,jg,d,e,i,f,c,g,a,b,l] at h
   ·simp[xx,wc,jg,d,e,i,f,c,g,a,b,l] at h
  have r: -9223372036854775807<=j/\j<=9223372036854775807:=by unfold Fit at p;omega
  obtain⟨B,o⟩:=WD r l
  refine⟨by omega,?_⟩
  by_cases a:(ZW S.1 (F*(m:Int),1)).1.1<0
  ·have s:wK (ZW S.1 (F*(m:Int),1)).1=(0,1):=by simp[wK,a]
   rw[s]
   by_cases k:(VY (0,1) (j,1)).2=0
   ·simp[xx,wc,jg,d,e,i,f,c,g,a,b,l,o,k]
    exact Prod.ext rfl k
   ·simp[xx,wc,jg,d,e,i,f,c,g,a,b,l,o,k] at h
  ·have s:wK (ZW S.1 (F*(m:Int),1)).1=(ZW S.1 (F*(m:Int),1)).1:=by simp[wK,a]
   rw[s]
   by_cases k:(VY (ZW S.1 (F*(m:Int),1)).1 (j,1)).2=0
   ·simp[xx,wc,jg,d,e,i,f,c,g,a,b,l,o,k]
    exact Prod.ext rfl k
   ·simp[xx,wc,jg,d,e,i,f,c,g,a,b,l,o,k] at h
 ·intro b
  by_cases a:(ZW S.1 (F*(m:Int),1)).1.1<0
  ·simp[xx,wc,jg,d,e,i,f,c,g,a,b]
  ·simp[xx,wc,jg,d,e,i,f,c,g,a,b]
theorem kza{p:qx}(h:Lo p):Lo (wK p)/\0<=(wK p).1:=by
 unfold wK
 split
 ·exact⟨yNa,by decide⟩
 ·exact⟨h,by omega⟩
theorem XUa{s:Setup}{w:Int}{l:List Ev}:XQ s w l=qv (l.filter λe=> !Qn s w e):=by rw[XQ,wo]
theorem wva{s:Setup}{w k:Int}{l:List Ev}:kx (XQ s w l) k=((l.filter λe=> !Qn s w e).filter (wq k)).length:=by
 rw[kx,XUa]
 exact((xL _).filter _).length_eq
theorem zwb{p:qx}(h:Lo p):jq p:=by
 have:=h.num;have:=h.den;have:=h.pos
 exact⟨by unfold Fit;omega,by unfold Fit;omega⟩
theorem V7a{F:Int}{z S:qx × Int}{a:Int}{m:Nat}(f:0<=F/\F<=86400)(i:m<2097152)(b:Fit a)(h:(xx F z S a m).err=0):Lo (xx F z S a m).earned/\Lo (xx F z S a m).perf:=by
 obtain⟨D,d⟩:=XTa f i b h
 have c:=(kza d.lo).1
 rw[d.earned]
 refine⟨c,?_⟩
 by_cases e:0<a
 ·obtain⟨n1,n2⟩:=d.some e
  have g:Lo (a,1):=⟨by simp,by simp,by simp only;omega,by simp⟩
  obtain⟨a1,a2,a3⟩:=XQa c g e
  rw[a1] at n2
  have:=(Ya a2 a3 (by rw[n2])).1
  rw[n2] at this
  exact this
 ·rw[d.none e];exact yNa
theorem kAa{k:Int}{segs:List Seg}:Fit (kya k segs):=by
 unfold kya
 have:∀(L:List Seg) (n:Int),Fit n->Fit (L.foldl (λn g=>wr (n+wr (g.to_ - g.from_))) n):=λL=>by
  induction L with
  | nil=>exact λn h=>h
  | cons g L a=>exact λn _=>a _ (wF _)
 exact this _ _ (by unfold Fit;omega)
theorem q2a{s:Setup}{w k:Int}{l:List Ev}:kx (XQ s w l) k<=l.length:=by
 rw[wva]
 exact Nat.le_trans (qw _ _) (qw _ _)
theorem V8a{s:Setup}{l:List Ev}{w k:Int}(a:z6 s=true)(b:l.length<2097151)(h:(vA s l w k).err=0):Lo (vA s l w k).earned/\Lo (vA s l w k).perf:=by
 rw[vA,if_pos a,zua] at h⊢
 have:=q2a (s:=s) (w:=w) (k:=k) (l:=l)
 exact V7a (WE a) (by omega) kAa h
