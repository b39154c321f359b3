import Derived.Test.YtjeehgkolepogaaGreatK33
set_option linter.all false
namespace Go.Proofs.YtjeehgkolepogaaGreat.Ax
open Go Go.Proofs
section
variable{D:Mat}{a b a' b' y n:Nat}{B:Int}
def kHa{n:Int}:qm (xU D a b n) a' b'=qm D a' b'∨(a'=a/\b'=b/\qm (xU D a b n) a' b'=n):=by
 by_cases d:a'=a
 ·subst d;by_cases e:b'=b
  ·subst e;by_cases c:a'<D.length
   ·by_cases f:b'<(D.getD a' []).length
    ·right;refine⟨rfl,rfl,?_⟩;unfold qm xU;rw[zn (l:=D.set _ _),zr c,Option.getD_some,zn,zr f,Option.getD_some]
    ·left;have:(D.getD a' []).set b' n=D.getD a' []:=List.set_eq_of_length_le zb;unfold qm xU;rw[this,zn (l:=D.set _ _),zr c,Option.getD_some]
   ·left;have:xU D a' b' n=D:=List.set_eq_of_length_le zb;rw[this]
  ·left;unfold qm xU;by_cases c:a'<D.length
   ·rw[zn (l:=D.set _ _),zr c,Option.getD_some,zn,zf zb, <-zn]
   ·rw[List.set_eq_of_length_le zb]
 ·left;unfold qm xU;rw[zn (l:=D.set _ _),zf zb, <-zn]
def y9{n:Int}:qm (jY D a b n) a' b'=qm D a' b'∨(a'=a/\b'=b/\qm (jY D a b n) a' b'=n/\(qm D a b= -1∨n<qm D a b)):=by
 unfold jY;split
 ·rename_i h;rcases kHa (D:=D) (a:=a) (b:=b) (a':=a') (b':=b') (n:=n) with c|⟨c,e,d⟩
  ·exact .inl c
  ·exact .inr ⟨c,e,d,h⟩
 ·exact .inl rfl
def MB(D:Mat)(B:Int):Prop:=∀a b, -1<=qm D a b/\qm D a b<=B
def PH(y:Nat)(B:Int)(D:Mat):Prop:=∀a b, -1<=qm D a b/\qm D a b<=2*B/\(a=y∨b=y->qm D a b<=B)
def zga(hB:0<=B/\B<=1152921504606846976)(h:PH y B D)(g:qm D a y≠ -1):PH y B (vp b y a D)/\qm (vp b y a D) a y≠ -1:=by
 unfold vp;by_cases f:qm D y b= -1
 ·rw[if_neg (by simpa using f)];exact⟨h,g⟩
 ·rw[if_pos f];obtain⟨q,_,l⟩:=h a y;obtain⟨r,_,m⟩:=h y b;have l:=l (.inr rfl);have m:=m (.inl rfl);have p:wr (qm D a y+qm D y b)=qm D a y+qm D y b:=qb qg;rw[p];constructor
  ·intro a' b';rcases y9 (D:=D) (a:=a) (b:=b) (a':=a') (b':=b') (n:=qm D a y+qm D y b) with e|⟨k,j,d,c⟩
   ·rw[e];exact h a' b'
   ·rw[d];refine⟨zb,zb,λi=>?_⟩;subst k j;obtain⟨s,t,o⟩:=h a' b';have o:=o i;rcases c with c|c
    ·rcases i with rfl|rfl
     ·exact absurd c f
     ·exact absurd c g
    ·omega
  ·rcases y9 (D:=D) (a:=a) (b:=b) (a':=a) (b':=y) (n:=qm D a y+qm D y b) with e|⟨k,j,d,c⟩
   ·rw[e];exact g
   ·rw[d];omega
def Wk(hB:0<=B/\B<=1152921504606846976):∀(L:List Nat) {D:Mat},PH y B D->qm D a y≠ -1->PH y B (L.foldl (λD b=>vp b y a D) D)
 | [],_,h,_=>h
 | b::L,D,h,d=>by
   obtain⟨c,e⟩:=zga hB h (b:=b) d;exact Wk hB L c e
def kIa(hB:0<=B/\B<=1152921504606846976)(h:PH y B D)(a:Nat):PH y B (wR n y D a):=by
 unfold wR;split
 ·exact h
 ·rename_i b;exact Wk hB _ h b
def Wl(hB:0<=B/\B<=1152921504606846976):∀(L:List Nat) {D:Mat},PH y B D->PH y B (L.foldl (wR n y) D)
 | [],_,h=>h
 | a::L,_,h=>Wl hB L (kIa hB h a)
def zha(hB:0<=B/\B<=1152921504606846976)(h:MB D B):MB (Ja n D y) (2*B):=by
 have h0:PH y B D:=λa b=>by
  have:=h a b;exact⟨this.1,zb,λ_=>this.2⟩
 have c:=Wl (n:=n) hB (List.range n) h0;exact λa b=>⟨(c a b).1,(c a b).2.1⟩
def zia:∀(L:List Nat) {B:Int} {D:Mat},0<=B->B*2 ^ L.length<=1152921504606846976->MB D B->MB (L.foldl (Ja n) D) (B*2 ^ L.length)
 | [],B,D,_,_,h=>by simpa using h
 | y::L,B,D,h0,hB,h=>by
   have e:B*2 ^ (y::L).length=2*B*2 ^ L.length:=by
    rw[List.length_cons,Int.pow_succ];grind
   have a:(1:Int)<=2 ^ L.length:=by
    have:0<(2:Int) ^ L.length:=Int.pow_pos ze;omega
   have b:2*B<=2*B*2 ^ L.length:=by
    have:=Int.mul_le_mul_of_nonneg_left a (show 0<=2*B by omega);omega
   rw[e] at hB⊢;rw[List.foldl_cons];exact zia L zb hB (zha ⟨h0,zb⟩ h)
def zja{B n:Int}(h:MB D B)(c: -1<=n/\n<=B)(a b:Nat):MB (jY D a b n) B:=λa' b'=>by
 rcases y9 (D:=D) (a:=a) (b:=b) (a':=a') (b':=b') (n:=n) with e|⟨_,_,e,_⟩
 ·rw[e];exact h a' b'
 ·rw[e];exact c
def K6:∀(L:List Way) {D:Mat},MB D B->(∀w∈L, -1<=w.2.2/\w.2.2<=B)->MB (L.foldl QB D) B
 | [],_,h,_=>h
 | w::L,_,h,a=>K6 L (zja (zja h (a w zh) _ _) (a w zh) _ _) λx b=>a x (by simp[b])
def zka(n:Nat):MB (kV n) 10000:=λa b=>by
 have key:qm (kV n) a b=0∨qm (kV n) a b= -1:=by
  unfold qm kV;rw[zn (l:=List.map _ _),zw];by_cases h:a<n
  ·rw[List.getElem?_range h];simp only[Option.map_some,Option.getD_some,V9];rw[zn];by_cases d:b<n
   ·by_cases c:a=b
    ·subst c;rw[zr (by simpa using d)];simp
    ·rw[zf c,List.getElem?_replicate,if_pos d];simp
   ·rw[zR zE];simp
  ·rw[zR (l:=List.range n) zE];simp
 omega
def qwa{lo hi:Int}{l:List Int}(h:(!kY lo hi l)=false){x:Int}(a:x∈l):lo<=x/\x<=hi:=vJ (by simpa using h) a
def vWa{s:Setup}(h:zX s=true)(e:Ev): -1<=ZQ s e:=by
 simp only[zX,xA,zi] at h;obtain⟨⟨⟨⟨⟨g,_⟩,d⟩,_⟩,_⟩,_⟩:=h;have g:=vJ (x:=s.places) g zh
 have a:∀w∈s.ways, -1<=w.2.2/\w.2.2<=10000:=λw b=>by
  simp only[Bool.not_eq_true',List.any_eq_false] at d;have:=d w b;simp only[vN,Bool.or_eq_true,not_or,Bool.not_eq_true] at this;have:=qwa this.2 (x:=w.2.2) zh;omega
 have j:=K6 s.ways (zka s.places.toNat) a
 have i:(2:Int) ^ s.places.toNat<=65536:=by
  have c:(2:Nat) ^ s.places.toNat<=2 ^ 16:=Nat.pow_le_pow_right ze zb;have f:((2 ^ s.places.toNat:Nat):Int)<=((2 ^ 16:Nat):Int):=Int.ofNat_le.2 c;rw[Int.natCast_pow] at f;exact f
 have c:=zia (n:=s.places.toNat) (List.range s.places.toNat) (B:=10000) ze (by rw[List.length_range];omega) j;exact(c _ _).1
end
def xwa{a b:zL}(d:Lo a)(c:Lo b):kA KT a b=make (a.1*b.2+b.1*a.2) (a.2*b.2)/\(-9223372036854775807<=a.1*b.2+b.1*a.2/\a.1*b.2+b.1*a.2<=9223372036854775807)/\(0<a.2*b.2/\a.2*b.2<=9223372036854775807):=by
 have:=d.num;have:=d.den;have:=d.pos;have:=c.num;have:=c.den;have:=c.pos;have f:=kD (x:=a.1) (y:=b.2) zb zb zb zb;have h:=kD (x:=b.1) (y:=a.2) zb zb zb zb;have g:=kD (x:=a.2) (y:=b.2) zb zb zb zb;have e:=Int.mul_pos d.pos c.pos;refine⟨?_,zb,zb⟩;rw[K4 d c];show make (wr (wr (a.1*b.2)+wr (b.1*a.2))) (wr (a.2*b.2))=_;rw[qb (n:=a.1*b.2) qg,qb (n:=b.1*a.2) qg,qb (n:=a.1*b.2+b.1*a.2) qg,qb (n:=a.2*b.2) qg]
