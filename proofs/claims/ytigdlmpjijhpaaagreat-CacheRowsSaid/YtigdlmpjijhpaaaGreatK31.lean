import Derived.Test.YtigdlmpjijhpaaaGreatKA
import Derived.Test.YtigdlmpjijhpaaaGreatK28
set_option linter.all false
namespace Go.Proofs.YtigdlmpjijhpaaaGreat.Ax
open Go Go.Proofs
structure Lo (p:qw):Prop where
 pos:0<p.2
 cop:Int.gcd p.1 p.2=1
 num: -2147483647<=p.1/\p.1<=2147483647
 den:p.2<=2147483647
theorem yHa{a b e b':Int}(h:a*b'=e*b)(f:Int.gcd a b=1):b∣b':=by
 have d:b.natAbs∣a.natAbs*b'.natAbs:=by
  rw[<-Int.natAbs_mul,h,Int.natAbs_mul]
  exact Nat.dvd_mul_left _ _
 have c:Nat.Coprime b.natAbs a.natAbs:=by
  have:Nat.gcd a.natAbs b.natAbs=1:=f
  rw[Nat.Coprime,Nat.gcd_comm];exact this
 exact Int.natAbs_dvd_natAbs.1 (c.dvd_of_dvd_mul_left d)
theorem XBa{a b d b':Int}(k:0<b)(i:0<b')(j:Int.gcd a b=1)(c:Int.gcd d b'=1)(h:a*b'=d*b):a=d/\b=b':=by
 have g:=yHa h j
 have f:=yHa h.symm c
 have e:b=b':=Int.dvd_antisymm (by omega) (by omega) g f
 subst e
 exact⟨Int.eq_of_mul_eq_mul_right (by omega) h,rfl⟩
theorem kua{n:Int}(h: -9223372036854775807<=n/\n<=9223372036854775807):(JU n).toNat=n.natAbs:=by
 unfold JU
 split
 ·omega
 ·split
  ·rw[qq (by unfold Fit;omega)];omega
  ·omega
theorem zpa{n d:Int}(r: -9223372036854775807<=n/\n<=9223372036854775807)(q:0<d/\d<=9223372036854775807):
  ∃a b g:Int,0<g/\n=g*a/\d=g*b/\0<b/\Int.gcd a b=1/\make n d=if a>2147483647∨a< -2147483647∨b>2147483647 then((0,0),10) else((a,b),0):=by
 have j:¬ d<=0:=by omega
 by_cases h0:n=0
 ·refine⟨0,1,d,q.1,by omega,by omega,by omega,by decide,?_⟩
  rw[make,if_neg j,if_pos h0];rfl
 ·have m:WT n d=(Int.gcd n d:Int):=by
   unfold WT
   rw[kua r,kua (by omega)];rfl
  have o:0<Int.gcd n d:=Int.gcd_pos_of_ne_zero_left _ h0
  obtain⟨a,k⟩:=Int.gcd_dvd_left n d
  obtain⟨b,c⟩:=Int.gcd_dvd_right n d
  obtain⟨g,p⟩:∃g:Nat,g=Int.gcd n d:=⟨_,rfl⟩
  rw[<-p] at m o k c
  have i:(0:Int)<g:=by omega
  have l:0<b:=by
   rcases Int.lt_or_le 0 b with h|h
   ·exact h
   ·have:=Int.mul_le_mul_of_nonneg_left h (Int.le_of_lt i)
    omega
  have f:Int.gcd a b=1:=by
   have e:Int.gcd ((g:Int)*a) ((g:Int)*b)=g*Int.gcd a b:=by
    rw[Int.gcd_mul_left];simp
   rw[<-k, <-c, <-p] at e
   have:g*1=g*Int.gcd a b:=by omega
   exact(Nat.eq_of_mul_eq_mul_left o this).symm
  have t:n.tdiv (g:Int)=a:=by rw[k];exact Int.mul_tdiv_cancel_left a (by omega)
  have s:d.tdiv (g:Int)=b:=by rw[c];exact Int.mul_tdiv_cancel_left b (by omega)
  have w: -9223372036854775807<=a/\a<=9223372036854775807:=by
   have u:a.natAbs<=n.natAbs:=by
    rw[k,Int.natAbs_mul]
    exact Nat.le_mul_of_pos_left _ (by omega)
   omega
  have v:b<=9223372036854775807:=by
   have u:b.natAbs<=d.natAbs:=by
    rw[c,Int.natAbs_mul]
    exact Nat.le_mul_of_pos_left _ (by omega)
   omega
  refine⟨a,b,g,i,k,c,l,f,?_⟩
  rw[make,if_neg j,if_neg h0,m,t,s,qq (by unfold Fit;omega),qq (by unfold Fit;omega)]
theorem W7{n d:Int}(i: -9223372036854775807<=n/\n<=9223372036854775807)(c:0<d/\d<=9223372036854775807)(h:(make n d).2=0):
  Lo (make n d).1/\(make n d).1.1*d=n*(make n d).1.2:=by
 obtain⟨a,b,g,o,j,l,k,m,e⟩:=zpa i c
 rw[e] at h⊢
 split at h
 ·exact absurd h (by decide)
 ·rename_i f
  rw[if_neg f]
  refine⟨⟨k,m,by simp only;omega,by simp only;omega⟩,?_⟩
  simp only
  rw[j,l];grind
theorem VRa{p:qw}(h:Lo p):make p.1 p.2=(p,0):=by
 have:=h.num;have:=h.den;have:=h.pos
 obtain⟨a,b,g,m,c,j,i,k,e⟩:=zpa (n:=p.1) (d:=p.2) (by omega) (by omega)
 obtain⟨l,f⟩:=XBa h.pos i h.cop k (by rw[c,j];grind)
 rw[e, <-l, <-f,if_neg (by omega)]
theorem XCa{p:qw}(h:Lo p):rok p=true:=by simp[rok,VRa h]
theorem XDa{p:qw}(h:rok p=true):make p.1 p.2=(p,0):=by
 simp only[rok,zq,beq_iff_eq] at h
 exact Prod.ext (Prod.ext h.2.1 h.2.2) h.1
theorem XEa{p:qw}(h:rok p=true):Lo p:=by
 obtain⟨⟨b1,b2⟩,b3,b4⟩:=qXa h
 have e:=XDa h
 have:=(W7 (n:=p.1) (d:=p.2) (by omega) (by omega) (by rw[e])).1
 rw[e] at this
 exact this
theorem WB{n:Int}(c: -9223372036854775807<=n/\n<=9223372036854775807)(h:(make n 1).2=0):(-2147483647<=n/\n<=2147483647)/\(make n 1).1=(n,1):=by
 obtain⟨a,b,g,o,k,i,l,m,e⟩:=zpa c (d:=1) (by omega)
 have j:g=1:=by
  have:g∣1:=⟨b,i⟩
  exact Int.eq_one_of_dvd_one (by omega) this
 subst j
 rw[e] at h
 split at h
 ·exact absurd h (by decide)
 ·rename_i f
  rw[e,if_neg f]
  exact⟨by omega,by simp only[Prod.mk.injEq];omega⟩
theorem zfb{v:qw->qw->Int × Int}{a b:qw}(h:(Zl v a b).2=0):rok a=true/\rok b=true/\Zl v a b=make (v a b).1 (v a b).2:=by
 unfold Zl at h⊢
 split at h
 ·rename_i c
  rw[if_pos c]
  simp only[zq] at c
  exact⟨c.1,c.2,rfl⟩
 ·exact absurd h (by decide)
theorem XFa{v:qw->qw->Int × Int}{a b:qw}(c:Lo a)(d:Lo b):Zl v a b=make (v a b).1 (v a b).2:=by
 rw[Zl,if_pos (by simp[XCa c,XCa d])]
theorem zqa{x y:Int}(b: -2147483647<=x)(a:x<=2147483647)(d: -2147483647<=y)(c:y<=2147483647): -4611686014132420609<=x*y/\x*y<=4611686014132420609:=by
 have h:(x*y).natAbs<=2147483647*2147483647:=by
  rw[Int.natAbs_mul]
  exact Nat.mul_le_mul (by omega) (by omega)
 omega
theorem zgb{a b:qw}(d:Lo a)(c:Lo b):ZV a b=make (a.1*b.2 - b.1*a.2) (a.2*b.2)/\(-9223372036854775807<=a.1*b.2 - b.1*a.2/\a.1*b.2 - b.1*a.2<=9223372036854775807)/\(0<a.2*b.2/\a.2*b.2<=9223372036854775807):=by
 have:=d.num;have:=d.den;have:=d.pos;have:=c.num;have:=c.den;have:=c.pos
 have h:=zqa (x:=a.1) (y:=b.2) (by omega) (by omega) (by omega) (by omega)
 have g:=zqa (x:=b.1) (y:=a.2) (by omega) (by omega) (by omega) (by omega)
 have f:=zqa (x:=a.2) (y:=b.2) (by omega) (by omega) (by omega) (by omega)
 have e:=Int.mul_pos d.pos c.pos
 refine⟨?_,by omega,by omega⟩
 rw[ZV,XFa d c]
 show make (wr (wr (a.1*b.2) - wr (b.1*a.2))) (wr (a.2*b.2))=_
 rw[qq (n:=a.1*b.2) (by unfold Fit;omega),qq (n:=b.1*a.2) (by unfold Fit;omega),qq (n:=a.1*b.2 - b.1*a.2) (by unfold Fit;omega),qq (n:=a.2*b.2) (by unfold Fit;omega)]
theorem XGa{a b:qw}(c:Lo a)(d:Lo b)(h0:0<b.1):VW a b=make (a.1*b.2) (a.2*b.1)/\(-9223372036854775807<=a.1*b.2/\a.1*b.2<=9223372036854775807)/\(0<a.2*b.1/\a.2*b.1<=9223372036854775807):=by
 have:=c.num;have:=c.den;have:=c.pos;have:=d.num;have:=d.den;have:=d.pos
 have g:=zqa (x:=a.1) (y:=b.2) (by omega) (by omega) (by omega) (by omega)
 have f:=zqa (x:=a.2) (y:=b.1) (by omega) (by omega) (by omega) (by omega)
 have e:=Int.mul_pos c.pos h0
 refine⟨?_,by omega,by omega⟩
 rw[VW,XFa c d]
 show make (wr (a.1*b.2)) (wr (a.2*b.1))=_
 rw[qq (n:=a.1*b.2) (by unfold Fit;omega),qq (n:=a.2*b.1) (by unfold Fit;omega)]
theorem yIa:Lo (0,1):=⟨by decide,by decide,by decide,by decide⟩
theorem wv{lo hi x:Int}{l:List Int}(h:Qx lo hi l=true)(a:x∈l):lo<=x/\x<=hi:=by
 have h':(!l.any (qfa lo hi))=true:=h
 simp only[Bool.not_eq_true',List.any_eq_false] at h'
 have:=h' x a
 simp[qfa] at this
 omega
theorem WC{s:Setup}(h:z6 s=true):0<=s.fault/\s.fault<=86400:=by
 simp only[z6,wY,zq] at h
 exact wv h.1.2.1.1.2 (by simp)
def vX(a:qw)(b:Int)(d:qw × Int):PerfV:=if d.2=0 then⟨a,b,d.1,0⟩ else⟨(0,0),b,(0,0),d.2⟩
theorem Qoa{a:qw}{b:Int}{d:qw × Int}:(vX a b d).eligible=b:=by unfold vX;split<;>rfl
theorem XHa{a:qw}{b:Int}{d:qw × Int}(h:(vX a b d).err≠0):(vX a b d).earned=(0,0)/\(vX a b d).perf=(0,0):=by
 unfold vX at h⊢
 split at h
 ·exact absurd rfl h
 ·rename_i c
  rw[if_neg c]
  exact⟨rfl,rfl⟩
def xv(F:Int)(z S:qw × Int)(f:Int)(m:Nat):PerfV:=
 let e:=jf z S
 let d:=jf ((0,1),e.2) (make (wr (F*(m:Int))) 1)
 let c:=jf e d
 let b:=if c.2=0 then jf c (ZV S.1 d.1) else c
 let a:=if b.2=0/\b.1.1<0 then((0,1),b.2) else b
 let done:=if f>0/\a.2=0 then jf (jf ((0,1),a.2) (make f 1)) (VW a.1 (make f 1).1) else((0,1),a.2)
 vX a.1 f done
def VSa(k:Int)(segs:List Seg):List Seg:=segs.filter (jH k)
def kva(k:Int)(segs:List Seg):Int:=(VSa k segs).foldl (λn g=>wr (n+wr (g.to_ - g.from_))) 0
def zhb(s:Setup)(events:List Ev)(k:Int)(segs:List Seg):List qw:=(VSa k segs).map λg=>(xQ s (kY events g)).1
def zib(s:Setup)(events:List Ev)(k:Int)(segs:List Seg):qw × Int:=(VSa k segs).foldl (λz g=>jf z ((0,1),(xQ s (kY events g)).2)) ((0,1),0)
theorem zra{s:Setup}{events:List Ev}{segs:List Seg}{k:Int}:WA s events segs k=xv s.fault (zib s events k segs) (y8 (zhb s events k segs)) (kva k segs) (kp events k):=rfl
theorem XIa{F:Int}{z S:qw × Int}{a:Int}{m:Nat}:(xv F z S a m).eligible=a:=Qoa
def wI(p:qw):qw:=if p.1<0 then(0,1) else p
theorem VTa{F:Int}{z S:qw × Int}{a:Int}{m:Nat}(h:(xv F z S a m).err≠0):(xv F z S a m).earned=(0,0)/\(xv F z S a m).perf=(0,0):=XHa h
structure FinOk (F:Int) (z S:qw × Int) (el:Int) (m:Nat) (D:qw):Prop where
 z0:z.2=0
 s0:S.2=0
 slo:Lo S.1
 lo:Lo D
 eq:D.1*S.1.2=(S.1.1 - F*m*S.1.2)*D.2
 bd:F*m<=2147483647
 earned:(xv F z S el m).earned=wI D
 some:0<el->el<=2147483647/\VW (wI D) (el,1)=((xv F z S el m).perf,0)
 none:¬ 0<el->(xv F z S el m).perf=(0,1)
theorem XJa{F:Int}{z S:qw × Int}{j:Int}{m:Nat}(u:0<=F/\F<=86400)(C:m<2097152)(r:Fit j)(h:(xv F z S j m).err=0):∃D,FinOk F z S j m D:=by
 have s: -9223372036854775807<=F*(m:Int)/\F*(m:Int)<=9223372036854775807:=by
  have A:=Int.mul_nonneg u.1 (show(0:Int)<=m by omega)
  have B:=Int.mul_le_mul u.2 (show(m:Int)<=2097152 by omega) (by omega) (by omega)
  omega
 have i:wr (F*(m:Int))=F*m:=qq (by unfold Fit;omega)
 by_cases d:z.2=0
 rotate_left
 ·simp[xv,vX,jf,d] at h
 by_cases e:S.2=0
 rotate_left
 ·simp[xv,vX,jf,d,e] at h
 by_cases f:(make (F*(m:Int)) 1).2=0
 rotate_left
 ·simp[xv,vX,jf,d,e,i,f] at h
 obtain⟨G,c⟩:=WB s f
 by_cases g:(ZV S.1 (F*(m:Int),1)).2=0
 rotate_left
 ·simp[xv,vX,jf,d,e,i,f,c,g] at h
 obtain⟨w,x,E⟩:=zfb g
 have v:=XEa w
 have l2:=XEa x
 obtain⟨t,s2,s3⟩:=zgb v l2
 have n:=g
 rw[t] at n
 obtain⟨k1,k2⟩:=W7 s2 s3 n
 rw[<-t] at k1 k2
 refine⟨(ZV S.1 (F*(m:Int),1)).1,d,e,v,k1,by simp only at k2;grind,by omega,?_,?_,?_⟩
 ·by_cases a:(ZV S.1 (F*(m:Int),1)).1.1<0
  ·by_cases b:0<j
   ·simp[xv,vX,jf,d,e,i,f,c,g,a,b] at h⊢
    split at h
    ·simp_all
     split at h<;>simp_all [wI]
    ·simp_all
   ·simp[xv,vX,jf,d,e,i,f,c,g,a,b,wI]
  ·by_cases b:0<j
   ·simp[xv,vX,jf,d,e,i,f,c,g,a,b] at h⊢
    split at h
    ·simp_all
     split at h<;>simp_all [wI]
     omega
    ·simp_all
   ·simp[xv,vX,jf,d,e,i,f,c,g,a,b,wI]
 ·intro b
  by_cases l:(make j 1).2=0
  rotate_left
  ·by_cases a:(ZV S.1 (F*(m:Int),1)).1.1<0
   ·simp[xv,vX,jf,d,e,i,f,c,g,a,b,l] at h
   ·simp[xv,vX,jf,d,e,i,f,c,g,a,b,l] at h
  have p: -9223372036854775807<=j/\j<=9223372036854775807:=by unfold Fit at r;omega
  obtain⟨y,o⟩:=WB p l
  refine⟨by omega,?_⟩
  by_cases a:(ZV S.1 (F*(m:Int),1)).1.1<0
  ·have q:wI (ZV S.1 (F*(m:Int),1)).1=(0,1):=by simp[wI,a]
   rw[q]
   by_cases k:(VW (0,1) (j,1)).2=0
   ·simp[xv,vX,jf,d,e,i,f,c,g,a,b,l,o,k]
    exact Prod.ext rfl k
   ·simp[xv,vX,jf,d,e,i,f,c,g,a,b,l,o,k] at h
  ·have q:wI (ZV S.1 (F*(m:Int),1)).1=(ZV S.1 (F*(m:Int),1)).1:=by simp[wI,a]
   rw[q]
   by_cases k:(VW (ZV S.1 (F*(m:Int),1)).1 (j,1)).2=0
   ·simp[xv,vX,jf,d,e,i,f,c,g,a,b,l,o,k]
    exact Prod.ext rfl k
   ·simp[xv,vX,jf,d,e,i,f,c,g,a,b,l,o,k] at h
 ·intro b
  by_cases a:(ZV S.1 (F*(m:Int),1)).1.1<0
  ·simp[xv,vX,jf,d,e,i,f,c,g,a,b]
  ·simp[xv,vX,jf,d,e,i,f,c,g,a,b]
theorem kwa{p:qw}(h:Lo p):Lo (wI p)/\0<=(wI p).1:=by
 unfold wI
 split
 ·exact⟨yIa,by decide⟩
 ·exact⟨h,by omega⟩
theorem XKa{s:Setup}{w:Int}{l:List Ev}:XP s w l=qu (l.filter λe=> !Ql s w e):=by rw[XP,wi]
theorem wpa{s:Setup}{w k:Int}{l:List Ev}:kp (XP s w l) k=((l.filter λe=> !Ql s w e).filter (wl k)).length:=by
 rw[kp,XKa]
 exact((xK _).filter _).length_eq
theorem zjb{p:qw}(h:Lo p):jq p:=by
 have:=h.num;have:=h.den;have:=h.pos
 exact⟨by unfold Fit;omega,by unfold Fit;omega⟩
theorem VUa{F:Int}{z S:qw × Int}{a:Int}{m:Nat}(i:0<=F/\F<=86400)(f:m<2097152)(e:Fit a)(h:(xv F z S a m).err=0):Lo (xv F z S a m).earned/\Lo (xv F z S a m).perf:=by
 obtain⟨D,d⟩:=XJa i f e h
 have c:=(kwa d.lo).1
 rw[d.earned]
 refine⟨c,?_⟩
 by_cases b:0<a
 ·obtain⟨n1,n2⟩:=d.some b
  have g:Lo (a,1):=⟨by simp,by simp,by simp only;omega,by simp⟩
  obtain⟨a1,a2,a3⟩:=XGa c g b
  rw[a1] at n2
  have:=(W7 a2 a3 (by rw[n2])).1
  rw[n2] at this
  exact this
 ·rw[d.none b];exact yIa
theorem kxa{k:Int}{segs:List Seg}:Fit (kva k segs):=by
 unfold kva
 have:∀(L:List Seg) (n:Int),Fit n->Fit (L.foldl (λn g=>wr (n+wr (g.to_ - g.from_))) n):=λL=>by
  induction L with
  | nil=>exact λn h=>h
  | cons g L a=>exact λn _=>a _ (wE _)
 exact this _ _ (by unfold Fit;omega)
theorem qYa{s:Setup}{w k:Int}{l:List Ev}:kp (XP s w l) k<=l.length:=by
 rw[wpa]
 exact Nat.le_trans (qh _ _) (qh _ _)
theorem VVa{s:Setup}{l:List Ev}{w k:Int}(a:z6 s=true)(b:l.length<2097151)(h:(vz s l w k).err=0):Lo (vz s l w k).earned/\Lo (vz s l w k).perf:=by
 rw[vz,if_pos a,zra] at h⊢
 have:=qYa (s:=s) (w:=w) (k:=k) (l:=l)
 exact VUa (WC a) (by omega) kxa h
