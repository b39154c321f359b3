import Derived.Test.YtigdlmpjijhpaaaGreatBA
import Derived.Test.YtigdlmpjijhpaaaGreatB28
set_option linter.all false
namespace Go.Proofs.YtigdlmpjijhpaaaGreat.Ax
open Go Go.Proofs
structure Lo (p:qt):Prop where
 pos:0<p.2
 cop:Int.gcd p.1 p.2=1
 num: -2147483647<=p.1/\p.1<=2147483647
 den:p.2<=2147483647
theorem yza{a b f c:Int}(h:a*c=f*b)(g:Int.gcd a b=1):b∣c:=by
 have e:b.natAbs∣a.natAbs*c.natAbs:=by
  rw[<-Int.natAbs_mul,h,Int.natAbs_mul]
  exact Nat.dvd_mul_left _ _
 have d:Nat.Coprime b.natAbs a.natAbs:=by
  have:Nat.gcd a.natAbs b.natAbs=1:=g
  rw[Nat.Coprime,Nat.gcd_comm];exact this
 exact Int.natAbs_dvd_natAbs.1 (d.dvd_of_dvd_mul_left e)
theorem Xea{a b f c:Int}(l:0<b)(j:0<c)(k:Int.gcd a b=1)(d:Int.gcd f c=1)(h:a*c=f*b):a=f/\b=c:=by
 have i:=yza h k
 have g:=yza h.symm d
 have e:b=c:=Int.dvd_antisymm (by omega) (by omega) i g
 subst e
 exact⟨Int.eq_of_mul_eq_mul_right (by omega) h,rfl⟩
theorem kla{n:Int}(h: -9223372036854775807<=n/\n<=9223372036854775807):(JA n).toNat=n.natAbs:=by
 unfold JA
 split
 ·omega
 ·split
  ·rw[qp (by unfold Fit;omega)];omega
  ·omega
theorem zba{n d:Int}(u: -9223372036854775807<=n/\n<=9223372036854775807)(s:0<d/\d<=9223372036854775807):
  ∃a b g:Int,0<g/\n=g*a/\d=g*b/\0<b/\Int.gcd a b=1/\make n d=if a>2147483647∨a< -2147483647∨b>2147483647 then((0,0),10) else((a,b),0):=by
 have i:¬ d<=0:=by omega
 by_cases h0:n=0
 ·refine⟨0,1,d,s.1,by omega,by omega,by omega,by decide,?_⟩
  rw[make,if_neg i,if_pos h0];rfl
 ·have m:WJ n d=(Int.gcd n d:Int):=by
   unfold WJ
   rw[kla u,kla (by omega)];rfl
  have p:0<Int.gcd n d:=Int.gcd_pos_of_ne_zero_left _ h0
  obtain⟨a,f⟩:=Int.gcd_dvd_left n d
  obtain⟨b,c⟩:=Int.gcd_dvd_right n d
  obtain⟨g,o⟩:∃g:Nat,g=Int.gcd n d:=⟨_,rfl⟩
  rw[<-o] at m p f c
  have k:(0:Int)<g:=by omega
  have l:0<b:=by
   rcases Int.lt_or_le 0 b with h|h
   ·exact h
   ·have:=Int.mul_le_mul_of_nonneg_left h (Int.le_of_lt k)
    omega
  have j:Int.gcd a b=1:=by
   have e:Int.gcd ((g:Int)*a) ((g:Int)*b)=g*Int.gcd a b:=by
    rw[Int.gcd_mul_left];simp
   rw[<-f, <-c, <-o] at e
   have:g*1=g*Int.gcd a b:=by omega
   exact(Nat.eq_of_mul_eq_mul_left p this).symm
  have t:n.tdiv (g:Int)=a:=by rw[f];exact Int.mul_tdiv_cancel_left a (by omega)
  have r:d.tdiv (g:Int)=b:=by rw[c];exact Int.mul_tdiv_cancel_left b (by omega)
  have w: -9223372036854775807<=a/\a<=9223372036854775807:=by
   have q:a.natAbs<=n.natAbs:=by
    rw[f,Int.natAbs_mul]
    exact Nat.le_mul_of_pos_left _ (by omega)
   omega
  have v:b<=9223372036854775807:=by
   have q:b.natAbs<=d.natAbs:=by
    rw[c,Int.natAbs_mul]
    exact Nat.le_mul_of_pos_left _ (by omega)
   omega
  refine⟨a,b,g,k,f,c,l,j,?_⟩
  rw[make,if_neg i,if_neg h0,m,t,r,qp (by unfold Fit;omega),qp (by unfold Fit;omega)]
theorem WX{n d:Int}(m: -9223372036854775807<=n/\n<=9223372036854775807)(f:0<d/\d<=9223372036854775807)(h:(make n d).2=0):
  Lo (make n d).1/\(make n d).1.1*d=n*(make n d).1.2:=by
 obtain⟨a,b,g,o,c,k,i,l,e⟩:=zba m f
 rw[e] at h⊢
 split at h
 ·exact absurd h (by decide)
 ·rename_i j
  rw[if_neg j]
  refine⟨⟨i,l,by simp only;omega,by simp only;omega⟩,?_⟩
  simp only
  rw[c,k];grind
theorem Vpa{p:qt}(h:Lo p):make p.1 p.2=(p,0):=by
 have:=h.num;have:=h.den;have:=h.pos
 obtain⟨a,b,g,m,f,k,i,l,e⟩:=zba (n:=p.1) (d:=p.2) (by omega) (by omega)
 obtain⟨j,c⟩:=Xea h.pos i h.cop l (by rw[f,k];grind)
 rw[e, <-j, <-c,if_neg (by omega)]
theorem Xfa{p:qt}(h:Lo p):rok p=true:=by simp[rok,Vpa h]
theorem Xga{p:qt}(h:rok p=true):make p.1 p.2=(p,0):=by
 simp only[rok,zl,beq_iff_eq] at h
 exact Prod.ext (Prod.ext h.2.1 h.2.2) h.1
theorem Xha{p:qt}(h:rok p=true):Lo p:=by
 obtain⟨⟨b1,b2⟩,b3,b4⟩:=qWa h
 have e:=Xga h
 have:=(WX (n:=p.1) (d:=p.2) (by omega) (by omega) (by rw[e])).1
 rw[e] at this
 exact this
theorem Wo{n:Int}(j: -9223372036854775807<=n/\n<=9223372036854775807)(h:(make n 1).2=0):(-2147483647<=n/\n<=2147483647)/\(make n 1).1=(n,1):=by
 obtain⟨a,b,g,l,k,i,m,o,e⟩:=zba j (d:=1) (by omega)
 have c:g=1:=by
  have:g∣1:=⟨b,i⟩
  exact Int.eq_one_of_dvd_one (by omega) this
 subst c
 rw[e] at h
 split at h
 ·exact absurd h (by decide)
 ·rename_i f
  rw[e,if_neg f]
  exact⟨by omega,by simp only[Prod.mk.injEq];omega⟩
theorem YNa{v:qt->qt->Int × Int}{a b:qt}(h:(Ze v a b).2=0):rok a=true/\rok b=true/\Ze v a b=make (v a b).1 (v a b).2:=by
 unfold Ze at h⊢
 split at h
 ·rename_i c
  rw[if_pos c]
  simp only[zl] at c
  exact⟨c.1,c.2,rfl⟩
 ·exact absurd h (by decide)
theorem Xia{v:qt->qt->Int × Int}{a b:qt}(c:Lo a)(d:Lo b):Ze v a b=make (v a b).1 (v a b).2:=by
 rw[Ze,if_pos (by simp[Xfa c,Xfa d])]
theorem zca{x y:Int}(d: -2147483647<=x)(c:x<=2147483647)(a: -2147483647<=y)(b:y<=2147483647): -4611686014132420609<=x*y/\x*y<=4611686014132420609:=by
 have h:(x*y).natAbs<=2147483647*2147483647:=by
  rw[Int.natAbs_mul]
  exact Nat.mul_le_mul (by omega) (by omega)
 omega
theorem YOa{a b:qt}(d:Lo a)(c:Lo b):ZO a b=make (a.1*b.2 - b.1*a.2) (a.2*b.2)/\(-9223372036854775807<=a.1*b.2 - b.1*a.2/\a.1*b.2 - b.1*a.2<=9223372036854775807)/\(0<a.2*b.2/\a.2*b.2<=9223372036854775807):=by
 have:=d.num;have:=d.den;have:=d.pos;have:=c.num;have:=c.den;have:=c.pos
 have h:=zca (x:=a.1) (y:=b.2) (by omega) (by omega) (by omega) (by omega)
 have g:=zca (x:=b.1) (y:=a.2) (by omega) (by omega) (by omega) (by omega)
 have f:=zca (x:=a.2) (y:=b.2) (by omega) (by omega) (by omega) (by omega)
 have e:=Int.mul_pos d.pos c.pos
 refine⟨?_,by omega,by omega⟩
 rw[ZO,Xia d c]
 show make (wr (wr (a.1*b.2) - wr (b.1*a.2))) (wr (a.2*b.2))=_
 rw[qp (n:=a.1*b.2) (by unfold Fit;omega),qp (n:=b.1*a.2) (by unfold Fit;omega),qp (n:=a.1*b.2 - b.1*a.2) (by unfold Fit;omega),qp (n:=a.2*b.2) (by unfold Fit;omega)]
theorem Xja{a b:qt}(c:Lo a)(d:Lo b)(h0:0<b.1):VI a b=make (a.1*b.2) (a.2*b.1)/\(-9223372036854775807<=a.1*b.2/\a.1*b.2<=9223372036854775807)/\(0<a.2*b.1/\a.2*b.1<=9223372036854775807):=by
 have:=c.num;have:=c.den;have:=c.pos;have:=d.num;have:=d.den;have:=d.pos
 have g:=zca (x:=a.1) (y:=b.2) (by omega) (by omega) (by omega) (by omega)
 have f:=zca (x:=a.2) (y:=b.1) (by omega) (by omega) (by omega) (by omega)
 have e:=Int.mul_pos c.pos h0
 refine⟨?_,by omega,by omega⟩
 rw[VI,Xia c d]
 show make (wr (a.1*b.2)) (wr (a.2*b.1))=_
 rw[qp (n:=a.1*b.2) (by unfold Fit;omega),qp (n:=a.2*b.1) (by unfold Fit;omega)]
theorem yAa:Lo (0,1):=⟨by decide,by decide,by decide,by decide⟩
theorem wl{lo hi x:Int}{l:List Int}(h:Qh lo hi l=true)(a:x∈l):lo<=x/\x<=hi:=by
 have h':(!l.any (z7a lo hi))=true:=h
 simp only[Bool.not_eq_true',List.any_eq_false] at h'
 have:=h' x a
 simp[z7a] at this
 omega
theorem Wp{s:Setup}(h:qv s=true):0<=s.fault/\s.fault<=86400:=by
 simp only[qv,wL,zl] at h
 exact wl h.1.2.1.1.2 (by simp)
def vP(a:qt)(b:Int)(d:qt × Int):PerfV:=if d.2=0 then⟨a,b,d.1,0⟩ else⟨(0,0),b,(0,0),d.2⟩
theorem Qea{a:qt}{b:Int}{d:qt × Int}:(vP a b d).eligible=b:=by unfold vP;split<;>rfl
theorem Xka{a:qt}{b:Int}{d:qt × Int}(h:(vP a b d).err≠0):(vP a b d).earned=(0,0)/\(vP a b d).perf=(0,0):=by
 unfold vP at h⊢
 split at h
 ·exact absurd rfl h
 ·rename_i c
  rw[if_neg c]
  exact⟨rfl,rfl⟩
def xh(F:Int)(z S:qt × Int)(f:Int)(m:Nat):PerfV:=
 let e:=jd z S
 let d:=jd ((0,1),e.2) (make (wr (F*(m:Int))) 1)
 let c:=jd e d
 let b:=if c.2=0 then jd c (ZO S.1 d.1) else c
 let a:=if b.2=0/\b.1.1<0 then((0,1),b.2) else b
 let done:=if f>0/\a.2=0 then jd (jd ((0,1),a.2) (make f 1)) (VI a.1 (make f 1).1) else((0,1),a.2)
 vP a.1 f done
def Vqa(k:Int)(segs:List Seg):List Seg:=segs.filter (xA k)
def kma(k:Int)(segs:List Seg):Int:=(Vqa k segs).foldl (λn g=>wr (n+wr (g.to_ - g.from_))) 0
def YPa(s:Setup)(events:List Ev)(k:Int)(segs:List Seg):List qt:=(Vqa k segs).map λg=>(vl s (ZI events g)).1
def YQa(s:Setup)(events:List Ev)(k:Int)(segs:List Seg):qt × Int:=(Vqa k segs).foldl (λz g=>jd z ((0,1),(vl s (ZI events g)).2)) ((0,1),0)
theorem JP{s:Setup}{events:List Ev}{segs:List Seg}{k:Int}:kka s events segs k=xh s.fault (YQa s events k segs) (yS (YPa s events k segs)) (kma k segs) (vE events k):=rfl
theorem kna{F:Int}{z S:qt × Int}{a:Int}{m:Nat}:(xh F z S a m).eligible=a:=Qea
def wz(p:qt):qt:=if p.1<0 then(0,1) else p
theorem yBa{F:Int}{z S:qt × Int}{a:Int}{m:Nat}(h:(xh F z S a m).err≠0):(xh F z S a m).earned=(0,0)/\(xh F z S a m).perf=(0,0):=Xka h
structure FinOk (F:Int) (z S:qt × Int) (el:Int) (m:Nat) (D:qt):Prop where
 z0:z.2=0
 s0:S.2=0
 slo:Lo S.1
 lo:Lo D
 eq:D.1*S.1.2=(S.1.1 - F*m*S.1.2)*D.2
 bd:F*m<=2147483647
 earned:(xh F z S el m).earned=wz D
 some:0<el->el<=2147483647/\VI (wz D) (el,1)=((xh F z S el m).perf,0)
 none:¬ 0<el->(xh F z S el m).perf=(0,1)
theorem Xla{F:Int}{z S:qt × Int}{j:Int}{m:Nat}(t:0<=F/\F<=86400)(B:m<2097152)(p:Fit j)(h:(xh F z S j m).err=0):∃D,FinOk F z S j m D:=by
 have s: -9223372036854775807<=F*(m:Int)/\F*(m:Int)<=9223372036854775807:=by
  have A:=Int.mul_nonneg t.1 (show(0:Int)<=m by omega)
  have C:=Int.mul_le_mul t.2 (show(m:Int)<=2097152 by omega) (by omega) (by omega)
  omega
 have i:wr (F*(m:Int))=F*m:=qp (by unfold Fit;omega)
 by_cases d:z.2=0
 rotate_left
 ·simp[xh,vP,jd,d] at h
 by_cases e:S.2=0
 rotate_left
 ·simp[xh,vP,jd,d,e] at h
 by_cases f:(make (F*(m:Int)) 1).2=0
 rotate_left
 ·simp[xh,vP,jd,d,e,i,f] at h
 obtain⟨H,c⟩:=Wo s f
 by_cases g:(ZO S.1 (F*(m:Int),1)).2=0
 rotate_left
 ·simp[xh,vP,jd,d,e,i,f,c,g] at h
 obtain⟨y,x,E⟩:=YNa g
 have v:=Xha y
 have l2:=Xha x
 obtain⟨u,s2,w⟩:=YOa v l2
 have n:=g
 rw[u] at n
 obtain⟨k1,k2⟩:=WX s2 w n
 rw[<-u] at k1 k2
 refine⟨(ZO S.1 (F*(m:Int),1)).1,d,e,v,k1,by simp only at k2;grind,by omega,?_,?_,?_⟩
 ·by_cases a:(ZO S.1 (F*(m:Int),1)).1.1<0
  ·by_cases b:0<j
   ·simp[xh,vP,jd,d,e,i,f,c,g,a,b] at h⊢
    split at h
    ·simp_all
     split at h<;>simp_all [wz]
    ·simp_all
   ·simp[xh,vP,jd,d,e,i,f,c,g,a,b,wz]
  ·by_cases b:0<j
   ·simp[xh,vP,jd,d,e,i,f,c,g,a,b] at h⊢
    split at h
    ·simp_all
     split at h<;>simp_all [wz]
     omega
    ·simp_all
   ·simp[xh,vP,jd,d,e,i,f,c,g,a,b,wz]
 ·intro b
  by_cases l:(make j 1).2=0
  rotate_left
  ·by_cases a:(ZO S.1 (F*(m:Int),1)).1.1<0
   ·simp[xh,vP,jd,d,e,i,f,c,g,a,b,l] at h
   ·simp[xh,vP,jd,d,e,i,f,c,g,a,b,l] at h
  have r: -9223372036854775807<=j/\j<=9223372036854775807:=by unfold Fit at p;omega
  obtain⟨G,o⟩:=Wo r l
  refine⟨by omega,?_⟩
  by_cases a:(ZO S.1 (F*(m:Int),1)).1.1<0
  ·have q:wz (ZO S.1 (F*(m:Int),1)).1=(0,1):=by simp[wz,a]
   rw[q]
   by_cases k:(VI (0,1) (j,1)).2=0
   ·simp[xh,vP,jd,d,e,i,f,c,g,a,b,l,o,k]
    exact Prod.ext rfl k
   ·simp[xh,vP,jd,d,e,i,f,c,g,a,b,l,o,k] at h
  ·have q:wz (ZO S.1 (F*(m:Int),1)).1=(ZO S.1 (F*(m:Int),1)).1:=by simp[wz,a]
   rw[q]
   by_cases k:(VI (ZO S.1 (F*(m:Int),1)).1 (j,1)).2=0
   ·simp[xh,vP,jd,d,e,i,f,c,g,a,b,l,o,k]
    exact Prod.ext rfl k
   ·simp[xh,vP,jd,d,e,i,f,c,g,a,b,l,o,k] at h
 ·intro b
  by_cases a:(ZO S.1 (F*(m:Int),1)).1.1<0
  ·simp[xh,vP,jd,d,e,i,f,c,g,a,b]
  ·simp[xh,vP,jd,d,e,i,f,c,g,a,b]
theorem koa{p:qt}(h:Lo p):Lo (wz p)/\0<=(wz p).1:=by
 unfold wz
 split
 ·exact⟨yAa,by decide⟩
 ·exact⟨h,by omega⟩
theorem Xma{s:Setup}{w:Int}{l:List Ev}:KW s w l=qu (l.filter λe=> !QX s w e):=by rw[KW,Zh]
theorem wla{s:Setup}{w k:Int}{l:List Ev}:vE (KW s w l) k=((l.filter λe=> !QX s w e).filter (wN k)).length:=by
 rw[vE,Xma]
 exact((vr _).filter _).length_eq
theorem YRa{p:qt}(h:Lo p):jo p:=by
 have:=h.num;have:=h.den;have:=h.pos
 exact⟨by unfold Fit;omega,by unfold Fit;omega⟩
theorem Vra{F:Int}{z S:qt × Int}{a:Int}{m:Nat}(f:0<=F/\F<=86400)(g:m<2097152)(b:Fit a)(h:(xh F z S a m).err=0):Lo (xh F z S a m).earned/\Lo (xh F z S a m).perf:=by
 obtain⟨D,d⟩:=Xla f g b h
 have c:=(koa d.lo).1
 rw[d.earned]
 refine⟨c,?_⟩
 by_cases e:0<a
 ·obtain⟨n1,n2⟩:=d.some e
  have i:Lo (a,1):=⟨by simp,by simp,by simp only;omega,by simp⟩
  obtain⟨a1,a2,a3⟩:=Xja c i e
  rw[a1] at n2
  have:=(WX a2 a3 (by rw[n2])).1
  rw[n2] at this
  exact this
 ·rw[d.none e];exact yAa
theorem zda{k:Int}{segs:List Seg}:Fit (kma k segs):=by
 unfold kma
 have:∀(L:List Seg) (n:Int),Fit n->Fit (L.foldl (λn g=>wr (n+wr (g.to_ - g.from_))) n):=λL=>by
  induction L with
  | nil=>exact λn h=>h
  | cons g L a=>exact λn _=>a _ (ku _)
 exact this _ _ (by unfold Fit;omega)
theorem qXa{s:Setup}{w k:Int}{l:List Ev}:vE (KW s w l) k<=l.length:=by
 rw[wla]
 exact Nat.le_trans (qo _ _) (qo _ _)
theorem yCa{s:Setup}{l:List Ev}{w k:Int}(a:qv s=true)(b:l.length<2097151)(h:(kE s l w k).err=0):Lo (kE s l w k).earned/\Lo (kE s l w k).perf:=by
 rw[kE,if_pos a,JP] at h⊢
 have:=qXa (s:=s) (w:=w) (k:=k) (l:=l)
 exact Vra (Wp a) (by omega) zda h
