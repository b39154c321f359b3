import Derived.Test.YtjeehgkolepogaaGreatK32
set_option linter.all false
namespace Go.Proofs.YtjeehgkolepogaaGreat.Ax
open Go Go.Proofs
section
variable{n d:Int}{p a b:zL}
structure Lo (p:zL):Prop where
 pos:0<p.2
 cop:Int.gcd p.1 p.2=1
 num: -2147483647<=p.1/\p.1<=2147483647
 den:p.2<=2147483647
def Y8{a b a' b':Int}(h:a*b'=a'*b)(d:Int.gcd a b=1):b∣b':=by
 have c:b.natAbs∣a.natAbs*b'.natAbs:=by
  rw[<-Int.natAbs_mul,h,Int.natAbs_mul];exact Nat.dvd_mul_left _ _
 have e:Nat.Coprime b.natAbs a.natAbs:=by
  have:Nat.gcd a.natAbs b.natAbs=1:=d;rw[Nat.Coprime,Nat.gcd_comm];exact this
 exact Int.natAbs_dvd_natAbs.1 (e.dvd_of_dvd_mul_left c)
def jYa{a b a' b':Int}(j:0<b)(g:0<b')(d:Int.gcd a b=1)(c:Int.gcd a' b'=1)(h:a*b'=a'*b):a=a'/\b=b':=by
 have f:=Y8 h d;have i:=Y8 h.symm c;have e:b=b':=Int.dvd_antisymm zb zb f i;subst e;exact⟨Int.eq_of_mul_eq_mul_right zb h,rfl⟩
def Wb(h: -9223372036854775807<=n/\n<=9223372036854775807):(yQ n).toNat=n.natAbs:=by
 unfold yQ;split
 ·omega
 ·split
  ·rw[qb qg];omega
  ·omega
def make_red(t: -9223372036854775807<=n/\n<=9223372036854775807)(q:0<d/\d<=9223372036854775807):
    ∃a b g:Int,0<g/\n=g*a/\d=g*b/\0<b/\Int.gcd a b=1/\make n d=if a>2147483647∨a< -2147483647∨b>2147483647 then((0,0),10) else((a,b),0):=by
 have k:¬ d<=0:=zb;by_cases h0:n=0
 ·refine⟨0,1,d,q.1,zb,zb,zb,ze,?_⟩;rw[make,if_neg k,if_pos h0];rfl
 ·have p:Q8 n d=(Int.gcd n d:Int):=by
   unfold Q8;rw[Wb t,Wb zb];rfl
  have m:0<Int.gcd n d:=Int.gcd_pos_of_ne_zero_left _ h0;obtain⟨a,j⟩:=Int.gcd_dvd_left n d;obtain⟨b,i⟩:=Int.gcd_dvd_right n d;obtain⟨g,o⟩:∃g:Nat,g=Int.gcd n d:=⟨_,rfl⟩;rw[<-o] at p m j i;have f:(0:Int)<g:=zb
  have l:0<b:=by
   rcases Int.lt_or_le 0 b with h|h
   ·exact h
   ·have:=Int.mul_le_mul_of_nonneg_left h (Int.le_of_lt f);omega
  have c:Int.gcd a b=1:=by
   have e:Int.gcd ((g:Int)*a) ((g:Int)*b)=g*Int.gcd a b:=by
    rw[Int.gcd_mul_left];simp
   rw[<-j, <-i, <-o] at e;have:g*1=g*Int.gcd a b:=zb;exact(Nat.eq_of_mul_eq_mul_left m this).symm
  have u:n.tdiv (g:Int)=a:=by rw[j];exact Int.mul_tdiv_cancel_left a zb
  have s:d.tdiv (g:Int)=b:=by rw[i];exact Int.mul_tdiv_cancel_left b zb
  have v: -9223372036854775807<=a/\a<=9223372036854775807:=by
   have r:a.natAbs<=n.natAbs:=by
    rw[j,Int.natAbs_mul];exact Nat.le_mul_of_pos_left _ zb
   omega
  have w:b<=9223372036854775807:=by
   have r:b.natAbs<=d.natAbs:=by
    rw[i,Int.natAbs_mul];exact Nat.le_mul_of_pos_left _ zb
   omega
  refine⟨a,b,g,f,j,i,l,c,?_⟩;rw[make,if_neg k,if_neg h0,p,u,s,qb qg,qb qg]
def make_ok(j: -9223372036854775807<=n/\n<=9223372036854775807)(c:0<d/\d<=9223372036854775807)(h:(make n d).2=0):
    Lo (make n d).1/\(make n d).1.1*d=n*(make n d).1.2:=by
 obtain⟨a,b,g,o,k,i,l,m,e⟩:=make_red j c;rw[e] at h⊢;split at h
 ·exact absurd h ze
 ·rename_i f;rw[if_neg f];refine⟨⟨l,m,by simp only;omega,by simp only;omega⟩,?_⟩;simp only;rw[k,i];grind
def Y9(h:Lo p):make p.1 p.2=(p,0):=by
 have:=h.num;have:=h.den;have:=h.pos;obtain⟨a,b,g,m,j,c,k,l,e⟩:=make_red (n:=p.1) (d:=p.2) zb zb;obtain⟨i,f⟩:=jYa h.pos k h.cop l (by rw[j,c];grind);rw[e, <-i, <-f,if_neg zb]
def Yn(h:Lo p):rok p=true:=by simp[rok,Y9 h]
def jZa(h:rok p=true):make p.1 p.2=(p,0):=by
 simp only[rok,zi,beq_iff_eq] at h;exact Prod.ext (Prod.ext h.2.1 h.2.2) h.1
def y6(h:rok p=true):Lo p:=by
 obtain⟨⟨b1,b2⟩,b3,b4⟩:=Kb h;have e:=jZa h;have:=(make_ok (n:=p.1) (d:=p.2) zb zb (by rw[e])).1;rw[e] at this;exact this
def j0a(a: -2147483647<=n/\n<=2147483647):make n 1=((n,1),0):=
 Y9 (p:=(n,1)) ⟨zh,zh,a,zh⟩
def K4{v:zL->zL->Int × Int}(c:Lo a)(d:Lo b):kA v a b=make (v a b).1 (v a b).2:=by
 rw[kA,if_pos (by simp[Yn c,Yn d])]
def kD{x y:Int}(b: -2147483647<=x)(d:x<=2147483647)(c: -2147483647<=y)(a:y<=2147483647): -4611686014132420609<=x*y/\x*y<=4611686014132420609:=by
 have h:(x*y).natAbs<=2147483647*2147483647:=by
  rw[Int.natAbs_mul];exact Nat.mul_le_mul zb zb
 omega
def j1a(d:Lo a)(c:Lo b):vr a b=make (a.1*b.2 - b.1*a.2) (a.2*b.2)/\(-9223372036854775807<=a.1*b.2 - b.1*a.2/\a.1*b.2 - b.1*a.2<=9223372036854775807)/\(0<a.2*b.2/\a.2*b.2<=9223372036854775807):=by
 have:=d.num;have:=d.den;have:=d.pos;have:=c.num;have:=c.den;have:=c.pos;have f:=kD (x:=a.1) (y:=b.2) zb zb zb zb;have h:=kD (x:=b.1) (y:=a.2) zb zb zb zb;have g:=kD (x:=a.2) (y:=b.2) zb zb zb zb;have e:=Int.mul_pos d.pos c.pos;refine⟨?_,zb,zb⟩;rw[vr,K4 d c];show make (wr (wr (a.1*b.2) - wr (b.1*a.2))) (wr (a.2*b.2))=_;rw[qb (n:=a.1*b.2) qg,qb (n:=b.1*a.2) qg,qb (n:=a.1*b.2 - b.1*a.2) qg,qb (n:=a.2*b.2) qg]
def j2a(d:Lo a)(c:Lo b):jG a b=make (a.1*b.1) (a.2*b.2)/\(-9223372036854775807<=a.1*b.1/\a.1*b.1<=9223372036854775807)/\(0<a.2*b.2/\a.2*b.2<=9223372036854775807):=by
 have:=d.num;have:=d.den;have:=d.pos;have:=c.num;have:=c.den;have:=c.pos;have f:=kD (x:=a.1) (y:=b.1) zb zb zb zb;have g:=kD (x:=a.2) (y:=b.2) zb zb zb zb;have e:=Int.mul_pos d.pos c.pos;refine⟨?_,zb,zb⟩;rw[jG,K4 d c];show make (wr (a.1*b.1)) (wr (a.2*b.2))=_;rw[qb (n:=a.1*b.1) qg,qb (n:=a.2*b.2) qg]
def vNa(c:Lo a)(d:Lo b)(h0:0<b.1):wy a b=make (a.1*b.2) (a.2*b.1)/\(-9223372036854775807<=a.1*b.2/\a.1*b.2<=9223372036854775807)/\(0<a.2*b.1/\a.2*b.1<=9223372036854775807):=by
 have:=c.num;have:=c.den;have:=c.pos;have:=d.num;have:=d.den;have:=d.pos;have f:=kD (x:=a.1) (y:=b.2) zb zb zb zb;have g:=kD (x:=a.2) (y:=b.1) zb zb zb zb;have e:=Int.mul_pos c.pos h0;refine⟨?_,zb,zb⟩;rw[wy,K4 c d];show make (wr (a.1*b.2)) (wr (a.2*b.1))=_;rw[qb (n:=a.1*b.2) qg,qb (n:=a.2*b.1) qg]
def kqa:Lo (0,1):=⟨ze,ze,ze,ze⟩
end
section
variable{s:Setup}{k w:Int}{l:List Ev}
def vJ{lo hi x:Int}{l:List Int}(h:kY lo hi l=true)(a:x∈l):lo<=x/\x<=hi:=by
 have h':(!l.any (Qq lo hi))=true:=h;simp only[Bool.not_eq_true',List.any_eq_false] at h';have:=h' x a;simp[Qq] at this;omega
def k8a(a:zL)(b:Int)(d:zL × Int):PerfV:=if d.2=0 then⟨a,b,d.1,0⟩ else⟨(0,0),b,(0,0),d.2⟩
def Km(F:Int)(z S:zL × Int)(f:Int)(m:Nat):PerfV:=
 let d:=jg z S;let e:=jg ((0,1),d.2) (make (wr (F*(m:Int))) 1);let c:=jg d e;let b:=if c.2=0 then jg c (vr S.1 e.1) else c;let a:=if b.2=0/\b.1.1<0 then((0,1),b.2) else b;let done:=if f>0/\a.2=0 then jg (jg ((0,1),a.2) (make f 1)) (wy a.1 (make f 1).1) else((0,1),a.2)
 k8a a.1 f done
def Yx(k:Int)(segs:List Seg):List Seg:=segs.filter (qn k)
def Kn(k:Int)(segs:List Seg):Int:=(Yx k segs).foldl (λn g=>wr (n+wr (g.to_ - g.from_))) 0
def xga(s:Setup)(events:List Ev)(k:Int)(segs:List Seg):List zL:=(Yx k segs).map λg=>(jQ s (vq events g)).1
def xha(s:Setup)(events:List Ev)(k:Int)(segs:List Seg):zL × Int:=(Yx k segs).foldl (λz g=>jg z ((0,1),(jQ s (vq events g)).2)) ((0,1),0)
def xia{events:List Ev}{segs:List Seg}:jXa s events segs k=Km s.fault (xha s events k segs) (jB (xga s events k segs)) (Kn k segs) (xN events k):=rfl
def xja(p:zL):zL:=if p.1<0 then(0,1) else p
structure FinOk (F:Int) (z S:zL × Int) (el:Int) (m:Nat) (D:zL):Prop where
 z0:z.2=0
 s0:S.2=0
 slo:Lo S.1
 lo:Lo D
 eq:D.1*S.1.2=(S.1.1 - F*m*S.1.2)*D.2
 bd:F*m<=2147483647
 earned:(Km F z S el m).earned=xja D
 some:0<el->el<=2147483647/\wy (xja D) (el,1)=((Km F z S el m).perf,0)
 none:¬ 0<el->(Km F z S el m).perf=(0,1)
def xka:yZ s w l=zS (l.filter λe=> !ww s w e):=by rw[yZ,vZ]
def Yy:xN (yZ s w l) k=((l.filter λe=> !ww s w e).filter (kx k)).length:=by
 rw[xN,xka];exact((Zy _).filter _).length_eq
end
