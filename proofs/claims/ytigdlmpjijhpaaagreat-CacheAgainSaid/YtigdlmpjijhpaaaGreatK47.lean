import Derived.Test.YtigdlmpjijhpaaaGreatKA
import Derived.Test.YtigdlmpjijhpaaaGreatK40
import Derived.Test.YtigdlmpjijhpaaaGreatK38
import Derived.Test.YtigdlmpjijhpaaaGreatK31
import Derived.Test.YtigdlmpjijhpaaaGreatK21
import Derived.Test.YtigdlmpjijhpaaaGreatK43
import Derived.Test.YtigdlmpjijhpaaaGreatK46
import Derived.Test.YtigdlmpjijhpaaaGreatK34
set_option linter.all false
namespace Go.Proofs.YtigdlmpjijhpaaaGreat.Ax
open Go Go.Proofs
def InW(l:List Spn)(a b:Int):Prop:=∀t,Cov l t->a<=t/\t<b
theorem Zia:∀ {l:List Spn} {a b:Int},a<=b->PlainS l->InW l a b->0<=jR l/\jR l<=b - a
 | [],a,b,h,_,_=>by simp[jR];omega
 | x::l,a,b,h,d,hi=>by
   have n:=d.pos x (.head _)
   have k:=hi x.from_ ⟨x,.head _,by omega,by omega⟩
   have m:=hi (x.to_ - 1) ⟨x,.head _,by omega,by omega⟩
   obtain⟨i,e⟩:=zR.1 d.gap
   have j:=Zia (l:=l) (a:=x.to_) (b:=b) (by omega) ⟨λs c=>d.pos s (.tail _ c),e⟩ λt ⟨s,c,g,f⟩=>by
    have:=i s c
    have:=hi t ⟨s,.tail _ c,g,f⟩
    omega
   have:jR (x::l)=(x.to_ - x.from_)+jR l:=by simp[jR]
   omega
theorem Jaa{l:List Spn}{a b:Int}(h:a<=b)(hi:InW l a b):0<=jR (qz l)/\jR (qz l)<=b - a:=
 Zia h (vi l) λt c=>hi t ((ju l t).1 c).2.2
theorem z5a:∀ {l:List Spn} {n t:Int},Cov (Jf l n) t->Cov l t
 | [],n,t,h=>h
 | s::r,n,t,⟨x,a,b,c⟩=>by
   rw[Jf] at a
   split at a
   ·cases a
   ·rcases zx.1 a with rfl|a
    ·refine⟨s,.head _,?_,?_⟩<;>(unfold Je at b c;simp only at b c;omega)
    ·obtain⟨y,d,q⟩:=z5a ⟨x,a,b,c⟩
     exact⟨y,.tail _ d,q⟩
theorem joa{l:List Spn}{n t:Int}(h:Cov (qP l n) t):Cov l t:=((ju l t).1 (z5a h)).2.2
theorem z6a{W:List Spn}{L:List Int}{n t:Int}(h:Cov (L.flatMap λd=>qP (xm W d) n) t):Cov W t:=by
 obtain⟨x,a,q⟩:=h
 obtain⟨d,_,b⟩:=List.mem_flatMap.1 a
 exact(QO (joa ⟨x,b,q⟩)).2.1
theorem KZa{s:Setup}{p:List Spn}{w t:Int}{j:Nat}(h:Cov (oj (JA s p w) j) t):Cov (jr p w) t:=by
 match j with
 | 0=>exact z6a (joa h)
 | 1=>exact z6a (wI.1 h).2.1
 | j+2=>exact(wI.1 h).2.1
theorem Jba{s:Setup}{l:List Spn}{t:Int}(h:Cov (xc s l) t):Cov l t:=by
 unfold xc at h
 split at h
 ·exact(Vh.1 h).2.1
 ·obtain⟨x,a,_⟩:=h;cases a
theorem xna{l:List Spn}{k:Int}{p:Pt}(h:p∈ZY l k){t:Int}(b:p.from_<=t)(c:t<p.to_):Cov l t:=by
 obtain⟨x,a,rfl⟩:=zr.1 h
 exact⟨x,a,b,c⟩
theorem Zja{s:Setup}{o:List Spn × List Spn × List Spn}{c:List Spn}{p:Pt}{t:Int}(a:p.from_<=t)(b:t<p.to_):∀ {j:Nat},p∈XR s o c j->Cov c t∨∃i,Cov (oj o i) t
 | 0,h=> .inl (xna h a b)
 | j+1,h=>by
   rcases zK.1 h with h|h
   ·rcases zK.1 h with h|h
    ·exact Zja a b h
    ·exact .inr ⟨j,(wI.1 (xna h a b)).2.1⟩
   ·exact .inr ⟨j,Jba (xna h a b)⟩
theorem W4a{s:Setup}{L:List Seg}{wk k:Int}:0<=ZZ (vt s L wk) k/\ZZ (vt s L wk) k<=604800:=by
 have h:=Jaa (l:=yo (vt s L wk) k) (a:=wk*604800) (b:=(wk+1)*604800) (by omega) λt ⟨x,d,e,f⟩=>by
  obtain⟨p,c,rfl⟩:=zr.1 d
  have c:=(zT.1 c).1
  rcases Zja (t:=t) e f c with q|⟨i,q⟩
  ·exact(QO q).2.2
  ·exact(QO (KZa q)).2.2
 have:(wk+1)*604800 - wk*604800=604800:=by omega
 rw[this] at h
 exact h
structure Money (s:Setup):Prop where
 rates:∀r∈s.rates,0<=r/\r<=100000
 diff:0<=s.diff/\s.diff<=100000
 least:0<=s.least/\s.least<=100000
 bonus:∀t∈s.tiers,0<=t.2/\t.2<=100000
theorem vta:∀ {l:List K2} {last:Int},ku last l=false->∀t∈l,0<=t.2/\t.2<=100000
 | [],_,_,_,h=>by cases h
 | x::l,last,a,t,h=>by
   rw[ku,zY] at a
   rcases zx.1 h with rfl|h
   ·have:=a.1
    unfold Zq at this
    rw[zY] at this
    exact QC (by simpa using this.2)
   ·exact vta a.2 t h
theorem K0a{s:Setup}(h:z6 s=true):Money s:=by
 simp only[z6,w8,zq,Bool.not_eq_true'] at h
 obtain⟨_,⟨⟨⟨_,c⟩,a⟩,_⟩,d⟩:=h
 exact⟨λr b=>wx c b,wx a (by simp),wx a (by simp),vta d⟩
theorem Zka(n:Int):0<=Jm n/\Jm n<=604800:=by unfold Jm;omega
theorem jpa{n d:Int}(a:0<=n)(e:n<4611686018427387904)(h:0<d):(kI n d).1=n / d/\(kI n d).2=n % d:=by
 have c:n.tmod d=n % d:=Int.tmod_eq_emod_of_nonneg a
 have b:n.tdiv d=n / d:=Int.tdiv_eq_ediv_of_nonneg a
 have i:=Int.emod_nonneg n (show d≠0 by omega)
 have f:0<=n / d:=Int.ediv_nonneg a (by omega)
 have g:n / d<=n:=Int.ediv_le_self d a
 unfold kI
 rw[c,b,if_neg (by omega)]
 exact⟨qp (by unfold Fit;omega),rfl⟩
theorem Zla{n d:Int}(a:0<=n)(b:n<4611686018427387904)(e:0<d)(c:d<4611686018427387904):0<=qka n d/\qka n d<=n+1:=by
 obtain⟨f,i⟩:=jpa a b e
 have g:0<=n / d:=Int.ediv_nonneg a (by omega)
 have h:n / d<=n:=Int.ediv_le_self d a
 unfold qka K8
 rw[if_neg (by omega),f]
 split
 ·show 0<=wr (n / d+1)/\wr (n / d+1)<=n+1
  rw[qp (by unfold Fit;omega)];omega
 ·show 0<=n / d/\n / d<=n+1
  omega
theorem qlb{n d:Int}(a:0<=n)(c:n<4611686018427387904)(b:0<d):0<=(upI n d).1/\(upI n d).1<=n+1/\n<=(upI n d).1*d:=by
 obtain⟨f,e⟩:=jpa a c b
 have j:=Int.emod_nonneg n (show d≠0 by omega)
 have k:=Int.emod_lt_of_pos n b
 have g:0<=n / d:=Int.ediv_nonneg a (by omega)
 have h:n / d<=n:=Int.ediv_le_self d a
 have i:n=n / d*d+n % d:=by have:=Int.mul_ediv_add_emod n d;rw[Int.mul_comm] at this;omega
 unfold upI
 rw[if_neg (by omega),f,e]
 split
 ·show 0<=wr (n / d+1)/\wr (n / d+1)<=n+1/\n<=wr (n / d+1)*d
  rw[qp (by unfold Fit;omega),Int.add_mul]
  omega
 ·show 0<=n / d/\n / d<=n+1/\n<=n / d*d
  omega
theorem Zma:∀ {l:List Int} {a:Int},0<=a->(∀x∈l,0<=x/\x<17592186044416)->a+17592186044416*l.length<4611686018427387904->Ku a l=(a+l.sum,0)
 | [],a,_,_,_=>by simp[Ku]
 | x::l,a,g,b,c=>by
   obtain⟨i,h⟩:=b x (.head _)
   rw[List.length_cons] at c
   have d:wr (a+x)=a+x:=qp (by unfold Fit;omega)
   rw[Ku,d]
   have e:((decide (x>0)==decide (a+x>a)) || x==0)=true:=by
    have:decide (x>0)=decide (a+x>a):=decide_eq_decide.2 (by omega)
    rw[this,beq_self_eq_true,Bool.true_or]
   rw[if_pos e,Zma (by omega) (λy f=>b y (.tail _ f)) (by omega),List.sum_cons,Int.add_assoc]
theorem Jca{s:Setup}(m:Money s){r:Int}(a:0<=r/\r<=100000){j:Nat}(c:j<=6):0<=ZQ s r j/\ZQ s r j<=1000000:=by
 have b:=m.diff
 have t3:∀k:Int,0<=k->k<=3->0<=Kt r k/\Kt r k<=400000:=λk k0 k3=>by
  unfold Kt
  rw[qp (n:=k+1) (by unfold Fit;omega)]
  have e:0<=r*(k+1):=Int.mul_nonneg a.1 (by omega)
  have d:r*(k+1)<=100000*4:=Int.mul_le_mul a.2 (by omega) (by omega) (by omega)
  rw[qp (by unfold Fit;omega)]
  omega
 unfold ZQ
 split
 ·have:=t3 ((j:Int) - 3) (by omega) (by omega)
  rw[qp (n:=2*s.diff) (by unfold Fit;omega),qp (by unfold Fit;omega)]
  omega
 ·have:=t3 j (by omega) (by omega)
  omega
theorem K1a{s:Setup}(m:Money s)(w:Nat):0<=Xf s w/\Xf s w<=100000:=by
 unfold Xf
 rw[zZ]
 cases h:s.rates[w]? with
 | none=>exact⟨by decide,by decide⟩
 | some r=>exact m.rates r (qq h)
theorem K2a{s:Setup}(m:Money s)(w:Nat)(t:Nat->Int){j:Nat}(c:j<=6):0<=vM s w t j/\vM s w t j<17592186044416:=by
 unfold vM
 split
 ·exact⟨by decide,by decide⟩
 ·have b:=Zka (t j)
  have a:=Jca m (K1a m w) c
  have e:0<=Jm (t j)*ZQ s (Xf s w) j:=Int.mul_nonneg b.1 a.1
  have f:Jm (t j)*ZQ s (Xf s w) j<=604800*1000000:=Int.mul_le_mul b.2 a.2 a.1 (by omega)
  rw[qp (by unfold Fit;omega)]
  have:=Zla (n:=Jm (t j)*ZQ s (Xf s w) j) (d:=7200) e (by omega) (by omega) (by omega)
  omega
theorem Jda{s:Setup}(m:Money s)(g tier:Int):(0<=vN s g tier/\vN s g tier<17592186044416)/\(tier<0->vN s g tier=0):=by
 unfold vN
 split
 ·rename_i h
  have b:=Zka g
  have a:0<=WI s tier.toNat/\WI s tier.toNat<=100000:=by
   unfold WI
   rw[zZ]
   cases q:s.tiers[tier.toNat]? with
   | none=>exact⟨by decide,by decide⟩
   | some r=>exact m.bonus r (qq q)
  have c:0<=Jm g*WI s tier.toNat:=Int.mul_nonneg b.1 a.1
  have e:Jm g*WI s tier.toNat<=604800*100000:=Int.mul_le_mul b.2 a.2 a.1 (by omega)
  rw[qp (by unfold Fit;omega)]
  have:=Zla (n:=Jm g*WI s tier.toNat) (d:=3600) c (by omega) (by omega) (by omega)
  exact⟨by omega,λq=>by omega⟩
 ·exact⟨⟨by decide,by decide⟩,λ_=>rfl⟩
def W5a(b:Int)(f:Nat->Int):Nat->Int
 | 0=>b
 | n+1=>wr (W5a b f n+f n)
def yca(t:Nat->Int):Nat->Int
 | 0=>0
 | n+1=>if n=0 then yca t n else wr (yca t n+t n)
theorem K3a{t:Nat->Int}(b:∀j,0<=t j/\t j<=604800):∀n,n<=7->yca t n=JH t n/\0<=JH t n/\JH t n<=604800*n
 | 0,_=>⟨rfl,by show(0:Int)<=0;omega,by show(0:Int)<=604800*((0:Nat):Int);omega⟩
 | n+1,d=>by
   obtain⟨e,h,g⟩:=K3a b n (by omega)
   have f:=b n
   have c:Jm (t n)=t n:=by unfold Jm;omega
   rw[yca,JH]
   by_cases a:n=0
   ·subst a
    rw[if_pos rfl,if_pos rfl]
    exact⟨rfl,by omega,by omega⟩
   ·rw[if_neg a,if_neg a,c,e,qp (by unfold Fit;omega)]
    exact⟨rfl,by omega,by omega⟩
structure PayOk (s:Setup) (t:Nat->Int) (p:PayR) (tier:Int):Prop where
 zero:p.pays 0=0
 sum:W5a (wr (p.extra+p.supp)) p.pays 7=p.total
 none:tier<0->p.extra=0
 least:wr (yca t 7*s.least)<=wr (p.total*3600)
def kD(e:Int):Prop:=e=0∨e=10∨e=20∨e=100
theorem yda(n d:Int):kD (make n d).2:=by
 unfold make
 split
 ·exact .inr (.inr (.inl rfl))
 ·split
  ·exact .inl rfl
  ·split
   ·exact .inr (.inl rfl)
   ·exact .inl rfl
theorem WR(v:qx->qx->Int × Int)(a b:qx):kD (Zp v a b).2:=by
 unfold Zp
 split
 ·exact yda _ _
 ·exact .inr (.inr (.inl rfl))
theorem K4a:∀ {l:List qx} {o:qx},kD (WX o l).2
 | [],o=> .inl rfl
 | r::l,o=>by
   rw[WX]
   split
   ·exact WR _ _ _
   ·exact K4a
theorem yea(l:List qx):kD (Za l).2:=by
 unfold Za
 split
 ·exact K4a
 ·exact .inr (.inr (.inl rfl))
theorem KD{f:qx->qx->qx × Int}(d:∀a b,kD (f a b).2){a b:qx}{e:Int}(c:kD e):kD (wu f a b e).2:=by
 unfold wu
 split
 ·exact d _ _
 ·exact c
theorem W6a{s:Setup}{e:Ev}{a:Int}:kD (ZN s e a).2:=
 KD (WR jRa) (KD (λ_ _=>yea _) (KD (WR jRa) (KD (λ_ _=>yea _) (KD (WR jRa) (KD (WR jRa) (KD (WR jRa) (.inl rfl)))))))
theorem qmb{s:Setup}{e:Ev}:kD (xS s e).2:=by
 unfold xS
 split
 ·split
  ·exact .inr (.inr (.inr rfl))
  ·split
   ·exact .inl rfl
   ·exact W6a
 ·exact .inr (.inr (.inr rfl))
theorem KE{z v:qx × Int}(b:kD z.2)(a:kD v.2):kD (jg z v).2:=by
 unfold jg
 split
 ·exact a
 ·exact b
theorem K5a{s:Setup}{ev:List Ev}:∀(l:List Seg) (z:qx × Int),kD z.2->kD (l.foldl (λz g=>jg z ((0,1),(xS s (vd ev g)).2)) z).2
 | [],_,h=>h
 | g::l,z,h=>K5a l _ (KE h qmb)
theorem K6a{c:Prop}[Decidable c]{a b:qx × Int}(e:kD a.2)(d:kD b.2):kD (if c then a else b).2:=by
 split<;>assumption
theorem qnb{s:Setup}{ev:List Ev}{l:List Seg}{k:Int}:kD (WC s ev l k).err:=by
 unfold WC
 extract_lets sel eligible goals all0 all1 lost all2 all3 all4 done
 have h0:kD all0.2:=K5a _ _ (.inl rfl)
 have e:kD all1.2:=KE h0 (yea _)
 have f:kD lost.2:=KE e (yda _ _)
 have d:kD all2.2:=KE e f
 have c:kD all3.2:=K6a (KE d (WR _ _ _)) d
 have b:kD all4.2:=K6a c c
 have g:kD done.2:=K6a (KE (KE b (yda _ _)) (WR _ _ _)) b
 by_cases a:done.2=0
 ·rw[if_pos a];exact .inl rfl
 ·rw[if_neg a];exact g
theorem qob{s:Setup}{l:List Ev}{w k:Int}:kD (vA s l w k).err:=by
 unfold vA
 split
 ·exact qnb
 ·exact .inl rfl
structure GrossOk (s:Setup) (R:RowV):Prop where
 bad:R.err=70∨R.err=80∨R.err=212->W5a (wr (R.extra+R.supp)) R.pays 7=0/\yca R.tot 7=0/\R.total=0/\R.tier= -1/\R.elig=0
 sum:¬ (R.err=70∨R.err=80∨R.err=212)->W5a (wr (R.extra+R.supp)) R.pays 7=R.total/\R.pays 0=0/\(0<=R.tier∨R.extra=0)/\((0<R.elig/\R.err=0)∨R.tier= -1)/\wr (yca R.tot 7*s.least)<=wr (R.total*3600)
theorem W7a{F:Int}{z S:qx × Int}{a:Int}{m:Nat}(i:0<=F/\F<=86400)(l:m<2097152)(b:Fit a):
  (0<=(xx F z S a m).earned.1/\0<=(xx F z S a m).earned.2)/\0<=(xx F z S a m).perf.1/\0<=(xx F z S a m).perf.2:=by
 by_cases h:(xx F z S a m).err=0
 ·obtain⟨D,d⟩:=XTa i l b h
  obtain⟨c,c0⟩:=kza d.lo
  rw[d.earned]
  refine⟨⟨c0,by have:=c.pos;omega⟩,?_⟩
  by_cases e:0<a
  ·obtain⟨n1,n2⟩:=d.some e
   have j:Lo (a,1):=⟨by simp,by simp,by simp only;omega,by simp⟩
   obtain⟨a1,a2,a3⟩:=XQa c j e
   rw[a1] at n2
   obtain⟨b1,b2⟩:=Ya a2 a3 (by rw[n2])
   rw[n2] at b1 b2
   obtain⟨P,k⟩:∃P,P=(xx F z S a m).perf:=⟨_,rfl⟩
   simp only[<-k] at b1 b2⊢
   have n:=b1.pos
   simp only at a3
   refine⟨?_,by omega⟩
   by_cases q:0<=P.1
   ·exact q
   ·exfalso
    have g:P.1*((wK D).2*a)<0:=Int.mul_neg_of_neg_of_pos (by omega) a3.1
    have f:0<=(wK D).1*1*P.2:=Int.mul_nonneg (by omega) (by omega)
    omega
  ·rw[d.none e];exact⟨by decide,by decide⟩
 ·obtain⟨g,f⟩:=V6a h
  rw[g,f]
  exact⟨⟨by decide,by decide⟩,by decide,by decide⟩
theorem W8a{s:Setup}{l:List Ev}{w k:Int}(a:z6 s=true)(b:l.length<2097151):
  ((0<=(vA s l w k).earned.1/\0<=(vA s l w k).earned.2)/\0<=(vA s l w k).perf.1/\0<=(vA s l w k).perf.2)/\0<=(vA s l w k).eligible:=by
 constructor
 ·rw[vA,if_pos a,zua]
  have:=q2a (s:=s) (w:=w) (k:=k) (l:=l)
  exact W7a (WE a) (by omega) kAa
 ·rw[QJa a]
  exact(Kha (yW (s:=s) (l:=l) (w:=w) a).1 k).1.1
theorem qpb{s:Setup}(k:z6 s=true)(w:Nat){t:Nat->Int}(p:∀j,0<=t j/\t j<=604800)(g tier:Int):
  (∀j,j<=6->0<=(j4a s w t g tier).pays j)/\0<=(j4a s w t g tier).extra/\0<=(j4a s w t g tier).supp/\0<=(j4a s w t g tier).total:=by
 have m:=K0a k
 obtain⟨l,v⟩:=Jda m g tier
 have b:∀j,j<=6->0<=vM s w t j/\vM s w t j<17592186044416:=λj c=>K2a m w t c
 obtain⟨D,o,y⟩:=K3a p 7 (zo _)
 have f:=m.least
 have e:0<=JH t 7*s.least:=Int.mul_nonneg o f.1
 have r:JH t 7*s.least<=604800*7*100000:=Int.mul_le_mul (by omega) f.2 f.1 (by omega)
 have i:wr (JH t 7*s.least)=JH t 7*s.least:=qp (by unfold Fit;omega)
 obtain⟨A,G,z⟩:=qlb (n:=JH t 7*s.least) (d:=3600) e (by omega) (by omega)
 have C:=b 0 (by omega)
 have p1:=b 1 (by omega)
 have p2:=b 2 (by omega)
 have I:=b 3 (by omega)
 have B:=b 4 (by omega)
 have F:=b 5 (by omega)
 have H:=b 6 (by omega)
 have a:Ku 0 [vM s w t 0,vM s w t 1,vM s w t 2,vM s w t 3,vM s w t 4,vM s w t 5,vM s w t 6,vN s g tier]=(0+[vM s w t 0,vM s w t 1,vM s w t 2,vM s w t 3,vM s w t 4,vM s w t 5,vM s w t 6,vN s g tier].sum,0):=
  Zma (by omega) (λx h=>by
   simp only[zx,List.not_mem_nil,or_false] at h
   rcases h with rfl|rfl|rfl|rfl|rfl|rfl|rfl|rfl<;>assumption) (by simp only[List.length_cons,List.length_nil];omega)
 simp only[List.sum_cons,List.sum_nil] at a
 unfold j4a
 simp only[a,i]
 refine⟨λj c=>(b j c).1,l.1,by omega,?_⟩
 generalize vM s w t=P at*
 generalize vN s g tier=E at*
 generalize (upI (JH t 7*s.least) 3600).1=U at*
 clear a i
 have q:wr (U - (0+(P 0+(P 1+(P 2+(P 3+(P 4+(P 5+(P 6+(E+0))))))))))=U - (P 0+P 1+P 2+P 3+P 4+P 5+P 6+E):=by rw[qp (by unfold Fit;omega)];omega
 rw[q]
 generalize J:max 0 (U - (P 0+P 1+P 2+P 3+P 4+P 5+P 6+E))=S
 have u:0<=S/\S<=U:=by omega
 rw[qp (by unfold Fit;omega)]
 omega
def opN(t:TellS):Nat:=if t.open_.isSome then 1 else 0
def KF(t:TellS):Nat:=t.flags.length+opN t
theorem vua{s:Setup}{t:TellS}{m:Int}:KF (lateP s t m)<=KF t:=by
 unfold lateP
 split
 ·exact zo _
 ·rename_i e os a
  split
  ·show(t.flags++[(⟨e.id,1⟩:Flg)]).length+0<=t.flags.length+opN t
   have:opN t=1:=by unfold opN;rw[a];rfl
   rw[zf,this]
   exact zo _
  ·exact zo _
theorem K7a{s:Setup}{t:TellS}{e:Ev}:KF (kw s t e)<=KF t+1:=by
 have a:=vua (s:=s) (t:=t) (m:=e.at_)
 unfold kw
 generalize lateP s t e.at_=u at*
 split
 ·split
  ·rename_i b
   show u.flags.length+1<=_
   unfold KF at a⊢
   omega
  ·rename_i f os b
   have:opN u=1:=by unfold opN;rw[b];rfl
   show(u.flags++[(⟨f.id,2⟩:Flg)]).length+1<=_
   rw[zf]
   unfold KF at a⊢
   simp only[List.length_cons,List.length_nil]
   omega
 ·split
  ·rename_i b
   show(u.flags++[(⟨e.id,3⟩:Flg)]).length+opN u<=_
   rw[zf]
   unfold KF at a⊢
   simp only[List.length_cons,List.length_nil]
   omega
  ·rename_i f os b
   have:opN u=1:=by unfold opN;rw[b];rfl
   split
   ·show u.flags.length+0<=_
    unfold KF at a⊢
    omega
   ·show u.flags.length+1<=_
    unfold KF at a⊢
    omega
theorem K8a{s:Setup}{w:Int}:∀(l:List Ev) {t:TellS},KF (l.foldl (vZ s w) t)<=KF t+l.length
 | [],_=>zo _
 | e::l,t=>by
   have a:=K8a (s:=s) (w:=w) l (t:=vZ s w t e)
   have b:KF (vZ s w t e)<=KF t+1:=by
    unfold vZ
    split
    ·exact K7a
    ·omega
   rw[List.foldl_cons,List.length_cons]
   omega
theorem Jea{s:Setup}{l:List Ev}{w:Int}:(qA s l w).2.length<=l.length:=by
 have b:=K8a (s:=s) (w:=w) (qv l) (t:=⟨none,[],[]⟩)
 have a:=vua (s:=s) (t:=goP s w (qv l)) (m:=32054400)
 have c:=(xL l).length_eq
 have h0:KF ⟨none,[],[]⟩=0:=rfl
 unfold qA
 split
 ·show(lateP s (goP s w (qv l)) 32054400).flags.length<=_
  unfold goP at a⊢
  unfold KF at b a h0
  omega
 ·simp
def FlK(t:TellS):Prop:=∀x∈t.flags,0<=x.kind
theorem FlK.flag{t:TellS}(h:FlK t)(e:Ev){k:Int}(b:0<=k):FlK (xK t e k):=λx a=>by
 rcases zK.1 (show x∈t.flags++[⟨e.id,k⟩] from a) with a|a
 ·exact h x a
 ·rw[zW] at a;subst a;exact b
theorem FlK.late{s:Setup}{t:TellS}(h:FlK t)(m:Int):FlK (lateP s t m):=by
 unfold lateP
 split
 ·exact h
 ·split
  ·exact h.flag _ (by decide)
  ·exact h
theorem FlK.next{s:Setup}{t:TellS}(h:FlK t)(e:Ev):FlK (kw s t e):=by
 have a:=h.late (s:=s) e.at_
 unfold kw
 split
 ·split
  ·exact a
  ·exact a.flag _ (by decide)
 ·split
  ·exact a.flag _ (by decide)
  ·split
   ·exact a
   ·exact a
theorem FlK.go{s:Setup}{w:Int}:∀(l:List Ev) {t:TellS},FlK t->FlK (l.foldl (vZ s w) t)
 | [],_,h=>h
 | e ::l,t,h=>FlK.go l (by
     unfold vZ
     split
     ·exact h.next e
     ·exact h)
theorem Jfa{s:Setup}{l:List Ev}{w:Int}:∀x∈(qA s l w).2,0<=x.kind:=by
 have h0:FlK ⟨none,[],[]⟩:=λ_ h=>by cases h
 unfold qA
 split
 ·exact FlK.late (FlK.go (qv l) h0) _
 ·intro x a;cases a
theorem Zna:∀ {ns b:List Int},(∀n∈ns,0<=n)->kL (b,true) ns=(b++ns.flatMap yj,true)
 | [],b,_=>by simp[kL]
 | n::ns,b,h=>by
   have d:wPa [n]=false:=by
    have:=h n (.head _)
    simp[wPa]
    omega
   have e:Qe (b,true) n=(b++yj n,true):=by
    unfold Qe yZ
    rw[d]
    simp
   have a:=Zna (ns:=ns) (b:=b++yj n) λk c=>h k (.tail _ c)
   unfold kL at a⊢
   rw[List.foldl_cons,e,a,List.flatMap_cons,zt]
theorem yfa{s:Setup}{w wk:Int}(h:kn s w wk=0):z6 s=true/\(0<=w/\w<(s.rates.length:Int))/\0<=wk/\wk<=52:=by
 unfold kn at h
 split at h
 ·cases h
 ·split at h
  ·cases h
  ·split at h
   ·cases h
   ·rename_i b a c
    refine⟨?_,?_,?_⟩
    ·simpa using b
    ·simp at a;omega
    ·simp at c;omega
theorem W9a{s:Setup}(f:SFit s){l:List Ev}{w wk:Int}(L:kn s w wk=0)(T:l.length<=200):Qr (qm s l w wk).1 (qm s l w wk).2=true:=by
 obtain⟨m,S,k0⟩:=yfa L
 have y:(evR s w l).length<=l.length:=j5a s w l
 have J:=Jea (s:=s) (l:=evR s w l) (w:=w)
 have N:=qw (λg=>QM (evR s w l) g==wk) (qA s (evR s w l) w).2
 unfold qm
 rw[if_neg (by omega)]
 obtain⟨F,u⟩:∃F,F=jE (evR s w l) (qA s (evR s w l) w).2 wk:=⟨_,rfl⟩
 have M:F.length<=200:=by rw[u];unfold jE;omega
 have v:∀x∈F,0<=x.id/\0<=x.kind:=λx c=>by
  rw[u] at c
  have c:=(zT.1 c).1
  obtain⟨e,C,r⟩:=XE x c
  have h:=(zT.1 C).2
  have z:vK s e=true:=by
   unfold vO at h
   cases q:vK s e
   ·rw[q] at h;simp at h
   ·rfl
  have:=(wO (yC z)).2.1
  exact⟨by omega,Jfa x c⟩
 rw[<-u]
 have b:∀j:Nat,0<=ZZ (vt s (qA s (evR s w l) (w.toNat:Int)).1 wk) j/\ZZ (vt s (qA s (evR s w l) (w.toNat:Int)).1 wk) j<=604800:=λj=>W4a
 have H:=W8a (s:=s) (l:=evR s w l) (w:=(w.toNat:Int)) (k:=wk) m (by omega)
 have i:=qob (s:=s) (l:=evR s w l) (w:=(w.toNat:Int)) (k:=wk)
 show Qr (QEa s (evR s w l) w.toNat wk) F=true
 unfold QEa
 extract_lets P tot tier p
 have Q:=qpb m w.toNat b P.eligible tier
 have d:Fit (tier+1)/\ -1<=tier:=by
  show Fit (ite _ (vl s _) (-1)+1)/\ -1<=ite _ (vl s _) (-1)
  split
  ·refine⟨(vha f _).2,?_⟩
   cases y:rok P.perf
   ·have:vl s P.perf= -1:=by simp[vl,y]
    omega
   ·rcases yKa m y with⟨e,_⟩|⟨j,t,r,A,_⟩
    ·omega
    ·omega
  ·exact⟨by unfold Fit;decide,by decide⟩
 have o:wr (tier+1)=tier+1:=qp d.1
 have i:kD P.err:=i
 obtain⟨⟨⟨r,A⟩,O,B⟩,G⟩:=H
 obtain⟨p1,p2,R,K⟩:=Q
 have I:decide (P.err>100000)=false:=by
  unfold kD at i
  rw[decide_eq_false_iff_not];omega
 have D:decide ((F.length:Int)>200)=false:=by rw[decide_eq_false_iff_not];omega
 unfold Qr
 simp only[I,D,Bool.or_self,Bool.not_false,Bool.true_and]
 rw[Zna]
 intro n a
 unfold wE Zg XS Xk Xl at a
 simp only[zK,zx,List.not_mem_nil,or_false,List.mem_flatMap] at a
 have t0:=b 0
 have t1:=b 1
 have t2:=b 2
 have t3:=b 3
 have t4:=b 4
 have t5:=b 5
 have t6:=b 6
 have E:0<=P.err:=by unfold kD at i;omega
 rcases a with((((a|a)|a)|a)|a)|⟨x,c,a⟩
 ·rcases a with rfl|rfl|rfl
  ·exact zh _
  ·exact k0.1
  ·exact E
 ·rcases a with rfl|rfl|rfl|rfl|rfl|rfl|rfl
  ·exact t0.1
  ·exact t1.1
  ·exact t2.1
  ·exact t3.1
  ·exact t4.1
  ·exact t5.1
  ·exact t6.1
 ·rcases a with rfl|rfl|rfl|rfl|rfl|rfl|rfl
  ·exact p1 0 (by omega)
  ·exact p1 1 (by omega)
  ·exact p1 2 (by omega)
  ·exact p1 3 (by omega)
  ·exact p1 4 (by omega)
  ·exact p1 5 (by omega)
  ·exact p1 6 (by omega)
 ·rcases a with rfl|rfl|rfl|rfl|rfl|rfl|rfl|rfl|rfl
  ·exact r
  ·exact A
  ·exact O
  ·exact B
  ·exact G
  ·rw[o];omega
  ·exact p2
  ·exact R
  ·exact K
 ·subst a;omega
 ·obtain⟨a1,a2⟩:=v x c
  rcases a with rfl|rfl
  ·exact a1
  ·exact a2
theorem K9a{s:Setup}{b:Bk}{x:Fx}:(XT s b x).2.err=QR s b x:=rfl
theorem xoa{s:Setup}{b:Bk}{q:Cm}(h:q.kind=1∨q.kind=2):doP s b q=XT s b (Zl q):=by
 unfold doP Zl
 rcases h with h|h
 ·rw[if_pos h,if_pos h]
 ·rw[if_neg (by omega),if_pos h,if_neg (by omega)]
theorem Yaa{s:Setup}{b:Bk}{q:Cm}(h:¬ (q.kind=1∨q.kind=2)):(doP s b q).1.evs=b.evs:=by
 unfold doP
 rw[if_neg (by omega),if_neg (by omega)]
 split
 ·rfl
 ·split
  ·rfl
  ·split
   ·split<;>rfl
   ·split
    ·split<;>rfl
    ·split
     ·rfl
     ·split<;>rfl
theorem Vaa{s:Setup}{b:Bk}{x:Fx}(h:QR s b x≠0):(XT s b x).1=b:=by
 unfold XT
 have:(QR s b x==0)=false:=by simpa using h
 rw[this]
 rfl
theorem z7a{s:Setup}{x:Ch}{q:Cm}(i:ChI s x)(h:q.kind=1∨q.kind=2)(h0:(doP s x.bk q).2.err=0):
  ∃ b new,SomeOk s (doP s x.bk q).1.evs true x.rows (jt s x.bk.evs (Zl q)) b new/\ChI s ⟨(doP s x.bk q).1,b⟩/\
    kC s (doP s x.bk q).1.evs true (x.rows,[]) (jt s x.bk.evs (Zl q))=(b,new)/\doC s x q=(⟨(doP s x.bk q).1,b⟩,(doP s x.bk q).2,new):=by
 obtain⟨b,new,e,o⟩:=Zea (s:=s) (ev:=(doP s x.bk q).1.evs) (want:=true) i.srt (jt s x.bk.evs (Zl q)) (z2a _) (λk _ f=>by
  have f:isH x.rows k=true:=by simpa using f
  obtain⟨r,d,rfl⟩:=vR.1 f
  exact(i.rng r d).1.1) []
 rw[List.nil_append] at e
 refine⟨b,new,o,⟨Vo q i.bk,o.srt,λz c=>?_,λz c=>?_⟩,e,?_⟩
 ·rcases o.new z c with⟨_,a⟩|⟨a,g⟩
  ·exact a
  ·rw[xoa h,Kua i.bk]
   ·exact i.val z a
   ·intro _ j
    exact g (by rw[o.keys,zT];exact⟨j,by rw[vR.2 ⟨z,a,rfl⟩];rfl⟩)
 ·have:isH x.rows (ja z)=true:=by
   have a:isH b (ja z)=true:=vR.2 ⟨z,c,rfl⟩
   rw[o.held,Bool.or_eq_true] at a
   rcases a with a|a
   ·exact a
   ·have a:ja z∈new:=by simpa using a
    rw[o.keys] at a
    simpa using (zT.1 a).2
  obtain⟨r,d,e⟩:=vR.1 this
  rw[<-e]
  exact i.rng r d
 ·unfold doC
  rw[if_neg (by omega),if_pos ⟨h0,h⟩,e]
theorem Jga{s:Setup}{x:Ch}(i:ChI s x){b:Bk}(a:BkI s b)(h:b.evs=x.bk.evs):ChI s ⟨b,x.rows⟩:=
 ⟨a,i.srt,λr c=>by show r=qm s b.evs _ _;rw[h];exact i.val r c,i.rng⟩
theorem Wn{s:Setup}{x:Ch}{q:Cm}(h:¬ (q.kind=3∨q.kind=7))(b:¬ ((doP s x.bk q).2.err=0/\(q.kind=1∨q.kind=2))):doC s x q=(⟨(doP s x.bk q).1,x.rows⟩,(doP s x.bk q).2,[])/\(doP s x.bk q).1.evs=x.bk.evs:=by
 constructor
 ·unfold doC
  rw[if_neg h,if_neg b]
 ·by_cases a:q.kind=1∨q.kind=2
  ·rw[xoa a] at b⊢
   rw[Vaa λe=>b ⟨e,a⟩]
  ·exact Yaa a
theorem Zoa{s:Setup}{x:Ch}(q:Cm)(i:ChI s x):ChI s (doC s x q).1:=by
 by_cases h:q.kind=3∨q.kind=7
 ·have e:doC s x q=vg s x q:=by unfold doC;rw[if_pos h]
  rw[e]
  rcases z3a i h with⟨_,e⟩|⟨_,_,e⟩|⟨_,_,_,c,new,_,a,_,_,e⟩
  ·rw[e];exact i
  ·rw[e];exact i
  ·rw[e];exact a
 ·by_cases b:(doP s x.bk q).2.err=0/\(q.kind=1∨q.kind=2)
  ·obtain⟨c,new,_,a,_,e⟩:=z7a i b.2 b.1
   rw[e];exact a
  ·obtain⟨e,d⟩:=Wn h b
   rw[e]
   exact Jga i (Vo q i.bk) d
theorem Yba{s:Setup}(a:z6 s=true)(f:SFit s){b:Bk}(i:BkI s b){wk:Int}(e:0<=wk/\wk<=52):(j5 (xj s b wk)).2=0:=by
 have:okW (xj s b wk)=true:=by
  unfold okW
  rw[qb]
  intro r d
  obtain⟨w,c,rfl⟩:=zr.1 d
  rw[qW] at c
  refine W9a f ?_ i.few
  unfold kn
  rw[a,if_neg (by simp),if_neg (by omega),if_neg (by omega)]
 unfold j5
 rw[this]
 rfl
theorem qqb{s:Setup}(r:z6 s=true)(f:SFit s){x:Ch}(i:ChI s x)(q:Cm):(doC s x q).1.bk=(doP s x.bk q).1/\(doC s x q).2.1=(doP s x.bk q).2:=by
 by_cases h:q.kind=3∨q.kind=7
 ·have e:doC s x q=vg s x q:=by unfold doC;rw[if_pos h]
  rw[e]
  have n:q.kind=3->doP s x.bk q=(x.bk,if y6 s 0 q==0 then⟨0,[qm s x.bk.evs q.worker q.week],[],[]⟩ else wt (y6 s 0 q)):=λb=>by
   unfold doP
   rw[if_neg (by omega),if_neg (by omega),if_pos b]
  have o:q.kind=7->doP s x.bk q=(x.bk,if jv x.bk.shut q.week then⟨0,xj s x.bk q.week,[],(j5 (xj s x.bk q.week)).1⟩ else wt 212):=λb=>by
   unfold doP
   rw[if_neg (by omega),if_neg (by omega),if_neg (by omega),if_neg (by omega),if_neg (by omega),if_neg (by omega),if_pos b]
  have l:jv x.bk.shut q.week=true->kz q=true:=λw=>QT.2 (i.bk.rng _ (QQ.1 w))
  rcases z3a i h with⟨⟨b,c⟩,e⟩|⟨c,a,e⟩|⟨c,a,j,t,new,_,_,_,_,e⟩
  ·rw[e,n b]
   have:y6 s 0 q=80:=by simp[y6,jK,c]
   rw[this]
   exact⟨rfl,rfl⟩
  ·rw[e]
   by_cases b:q.kind=3
   ·have c:jf s q=true:=by
     cases g:jf s q
     ·exact absurd ⟨b,g⟩ c
     ·rfl
    have a:kz q=false:=by
     rcases a with a|a
     ·exact a
     ·omega
    have:y6 s 0 q=212:=by simp[y6,jK,c,a]
    rw[n b,this]
    exact⟨rfl,rfl⟩
   ·have j:q.kind=7:=by omega
    have:jv x.bk.shut q.week=false:=by
     cases g:jv x.bk.shut q.week
     ·rfl
     ·rcases a with a|a
      ·rw[l g] at a;cases a
      ·rw[a.2] at g;cases g
    rw[o j,this]
    exact⟨rfl,rfl⟩
  ·rw[e]
   by_cases b:q.kind=3
   ·have c:jf s q=true:=by
     cases g:jf s q
     ·exact absurd ⟨b,g⟩ c
     ·rfl
    have:y6 s 0 q=0:=by simp[y6,jK,c,a]
    have p:¬ q.kind=7:=by omega
    rw[n b,this]
    simp only[if_neg p]
    unfold vf
    rw[if_neg p]
    exact⟨by trivial,by trivial⟩
   ·have d:q.kind=7:=by omega
    have u:=Yba r f i.bk (QT.1 a)
    have v:(vf s q).map (λk=>qm s x.bk.evs k.1 k.2)=xj s x.bk q.week:=by
     unfold vf xj
     rw[if_pos d,kE]
     rfl
    rw[o d,j d,v]
    simp only[if_pos d,u]
    exact⟨by trivial,by trivial⟩
 ·by_cases m:(doP s x.bk q).2.err=0/\(q.kind=1∨q.kind=2)
  ·obtain⟨t,new,_,z,_,e⟩:=z7a i m.2 m.1
   rw[e];exact⟨rfl,rfl⟩
  ·obtain⟨e,y⟩:=Wn h m
   rw[e];exact⟨rfl,rfl⟩
theorem z8a{s:Setup}:∀(l:List Cm) {x:Ch},ChI s x->ChI s (xU s x l).1
 | [],_,h=>h
 | q::l,_,h=>z8a l (Zoa q h)
theorem Yca{s:Setup}(a:z6 s=true)(f:SFit s):∀(l:List Cm) {x:Ch},ChI s x->(xU s x l).1.bk=(vC s x.bk l).1/\(xU s x l).2.1=(vC s x.bk l).2
 | [],_,_=>⟨rfl,rfl⟩
 | q::l,x,h=>by
   obtain⟨e,d⟩:=qqb a f h q
   obtain⟨c,b⟩:=Yca a f l (Zoa q h)
   rw[e] at c b
   exact⟨c,by show _::_=_::_;rw[d,b]⟩
theorem vva{s:Setup}:∀(a l:List Cm) {x:Ch},xU s x (a++l)=((xU s (xU s x a).1 l).1,(xU s x a).2.1++(xU s (xU s x a).1 l).2.1,(xU s x a).2.2++(xU s (xU s x a).1 l).2.2)
 | [],l,x=>rfl
 | q::a,l,x=>by
   rw[List.cons_append,xU,vva a l]
   rfl
theorem Jha{s:Setup}{x:Ch}{l:List Cm}{n:Nat}(a:n<l.length):xU s x (l.take (n+1))=((doC s (xU s x (l.take n)).1 l[n]).1,(xU s x (l.take n)).2.1++[(doC s (xU s x (l.take n)).1 l[n]).2.1],(xU s x (l.take n)).2.2++[(doC s (xU s x (l.take n)).1 l[n]).2.2]):=by
 rw[show l.take (n+1)=l.take n++[l[n]] from(zE a).symm,vva]
 rfl
theorem vwa{s:Setup}:∀(l:List Cm) {x:Ch},(xU s x l).2.1.length=l.length/\(xU s x l).2.2.length=l.length
 | [],_=>⟨rfl,rfl⟩
 | q::l,x=>by
   have:=vwa (s:=s) l (x:=(doC s x q).1)
   exact⟨by show(_::_).length=_;rw[List.length_cons,this.1,List.length_cons],by show(_::_).length=_;rw[List.length_cons,this.2,List.length_cons]⟩
theorem jqa{s:Setup}(a:z6 s=true)(e:Ev):(yk s e).length<=2:=by
 obtain⟨⟨c,g⟩,d,f⟩:=jU a
 unfold yk Jp
 rw[zb,zb,js]
 have h:(yi s e.at_).2<=(yi s e.at_).1+1:=by
  unfold yi
  extract_lets n k
  have i:0<=n/\n<=32054399:=by
   show 0<=qI _ _/\qI _ _<=_
   unfold qI;omega
  have b:k=s.unit+s.cap:=by
   show wr (qI s.unit 604800+qI s.cap 604800)=_
   unfold qI
   rw[qp (by unfold Fit;omega)]
   omega
  show xW (wr (n+k))<=xW (wr (n - k))+1
  rw[qp (n:=n+k) (by unfold Fit;omega),qp (n:=n - k) (by unfold Fit;omega)]
  unfold xW ofI qI
  have a0:0<=min (max (n+k) 0) 32054399/\min (max (n+k) 0) 32054399<=32054399:=by omega
  have b0:0<=min (max (n - k) 0) 32054399/\min (max (n - k) 0) 32054399<=32054399:=by omega
  rw[Int.tdiv_eq_ediv_of_nonneg a0.1,Int.tdiv_eq_ediv_of_nonneg b0.1,qp (by unfold Fit;omega),qp (by unfold Fit;omega)]
  omega
 omega
theorem xpa{s:Setup}(a:z6 s=true)(l:List Ev)(x:Fx):(jt s l x).length<=4:=by
 have n:=QW (b:=ZT s l x) (z2a (ZT s l x)) λk d=>ZU.1 d
 have h:=jqa a (Qb l x.ev.id).1
 have f:=jqa a x.ev
 unfold jt
 have m:(ZT s l x).length<=4:=by
  have z:∀(c:Prop) [Decidable c] (e:Ev),(yk s e).length<=2->(if c then yk s e else []).length<=2:=λc _ e g=>by
   split
   ·exact g
   ·exact Nat.zero_le _
  unfold ZT
  rw[zf]
  have i:=z ((Qb l x.ev.id).2 && xh x) _ h
  have j:=z (xY x=true) _ f
  omega
 omega
structure KeysOk (s:Setup) (x:Ch) (q:Cm) (y:Ch) (w:An) (new:List Ky):Prop where
 err:new≠[]->w.err=0
 is:∀k∈new,isH y.rows k=true
 fix:q.kind=1∨q.kind=2->∀k∈new,isH x.rows k=true/\k∈jt s x.bk.evs (Zl q)
 ask:¬ (q.kind=1∨q.kind=2)->∀k∈new,isH x.rows k=false/\((q.kind=3/\k=(q.worker,q.week))∨(q.kind=7/\k.2=q.week))
 four:z6 s=true->q.kind=1∨q.kind=2->new.length<=4
 keep:∀r∈x.rows,isH y.rows (ja r)=true/\(ja r∉new->Jt y.rows (ja r)=r)
 len:y.rows.length=x.rows.length+(new.filter λk=> !isH x.rows k).length
theorem qub{s:Setup}(C:z6 s=true)(f:SFit s){x:Ch}(i:ChI s x){q:Cm}(z:q.kind=3):
  doC s (doC s x q).1 q=((doC s x q).1,(doC s x q).2.1,[])/\isH (doC s x q).1.rows (q.worker,q.week)=((doC s x q).2.1.err==0):=by
 have h:q.kind=3∨q.kind=7:= .inl z
 have e:∀x,doC s x q=vg s x q:=λx=>by unfold doC;rw[if_pos h]
 have m:¬ q.kind=7:=by omega
 rw[e x]
 rcases z3a i h with⟨⟨_,l⟩,d⟩|⟨l,j,d⟩|⟨l,j,E,g,new,o,B,p,_,d⟩
 ·rw[d]
  refine⟨by rw[e x,d],?_⟩
  show isH x.rows _=false
  cases w:isH x.rows (q.worker,q.week)
  ·rfl
  ·obtain⟨r,t,v⟩:=vR.1 w
   have:=i.rng r t
   rw[v] at this
   rw[WQ.2 this.1] at l
   cases l
 ·rw[d]
  refine⟨by rw[e x,d],?_⟩
  show isH x.rows _=false
  cases w:isH x.rows (q.worker,q.week)
  ·rfl
  ·obtain⟨r,t,v⟩:=vR.1 w
   have:=i.rng r t
   rw[v] at this
   rcases j with j|j
   ·rw[QT.2 this.2] at j
    cases j
   ·omega
 ·rw[d]
  have c:vf s q=[(q.worker,q.week)]:=by unfold vf;rw[if_neg m]
  have b:isH g (q.worker,q.week)=true:=p _ (by rw[c];exact .head _)
  refine⟨?_,?_⟩
  ·rw[e]
   show vg s ⟨x.bk,g⟩ q=_
   rcases z3a B h with⟨u,_⟩|⟨_,a,_⟩|⟨_,_,_,A,k,D,_,_,n,y⟩
   ·exact absurd u l
   ·rcases a with a|a
    ·rw[j] at a;cases a
    ·omega
   ·have a:kC s x.bk.evs false (g,[]) (vf s q)=(g,[]):=by
     rw[c]
     show Qh s x.bk.evs false (g,[]) (q.worker,q.week)=_
     unfold Qh
     simp only[b]
     rfl
    have n:kC s x.bk.evs false (g,[]) (vf s q)=(A,k):=n
    rw[a] at n
    injection n with a1 a2
    subst a1
    subst a2
    rw[y]
  ·show isH g _=((ite _ _ _:Int)==0)
   rw[if_neg m,b]
   rfl
end Go.Proofs.YtigdlmpjijhpaaaGreat.Ax
namespace Go.Proofs.YtigdlmpjijhpaaaGreat.Ax
open Go Go.RowKit
def FrzTo(h L:List Ob)(x x':AV):Prop:=∀(B:Nat) (w:World) (g:Gh) (a:List Ob),a.length=h.length->HOk B w g (a++L)->∀u,AR (ctx w g (a++L)) x u->AR (ctx w g a) x' u
def FrzL(h L:List Ob)(l l':List AV):Prop:=∀(B:Nat) (w:World) (g:Gh) (a:List Ob),a.length=h.length->HOk B w g (a++L)->∀us,ARs (ctx w g (a++L)) l us->ARs (ctx w g a) l' us
theorem FrzTo.lt{h L:List Ob}{x:AV}(a:x.lt h.length=true):FrzTo h L x x:=λB w g c e d u b=>AR.less (kU w g c L) _ _ (by rw[e];exact a) b
theorem FrzTo.new{h L:List Ob}{x:AV}{e:Nat}{rows:List (List AV)}(d:0<e)(c:qM h.length rows=true)(n:New h e x rows L):FrzTo h L x (.sl e rows):=λB w g i a b u f=>
 Jg b d f (n _ a) (λid hid=>by rw[a];exact n.root id hid) (by rw[a];exact c)
theorem FrzL.nil{h L:List Ob}:FrzL h L [] []:=λ_ _ _ _ _ _ _ h=>h
theorem FrzL.cons{h L:List Ob}{x x':AV}{l l':List AV}(k:FrzTo h L x x')(q:FrzL h L l l'):FrzL h L (x::l) (x'::l'):=λB w g b e a us ⟨v,r,f,d,c⟩=>⟨v,r,f,k B w g b e a v d,q B w g b e a r c⟩
theorem FrzL.pre{h L:List Ob}{l l':List AV}:∀ {a:List AV},qy h.length a=true->FrzL h L l l'->FrzL h L (a++l) (a++l')
 | [],_,q=>q
 | x::a,b,q=>by
   rw[qy,zq] at b
   exact .cons (.lt b.1) (FrzL.pre b.2 q)
theorem FrzTo.ag{h L:List Ob}{l l':List AV}(k:FrzL h L l l'):FrzTo h L (.ag l) (.ag l'):=λB w g d e b u ⟨vs,a,c⟩=>⟨vs,a,k B w g d e b _ c⟩
theorem FrzTo.tup{h L:List Ob}{l l':List AV}(k:FrzL h L l l'):FrzTo h L (.tup l) (.tup l'):=λB w g d e b u ⟨vs,a,c⟩=>⟨vs,a,k B w g d e b _ c⟩
theorem X6{P:Program}{f:FuncId}{ar:List AV}{h:List Ob}{e:AV}(c:ACalls P f ar h λr h'=>∃L,h'=h++L/\NoRes L/\FrzTo h L r e):ACalls P f ar h λr h'=>r=e/\h'=h:=by
 refine⟨c.1,⟨_,_,⟨rfl,rfl⟩,.refl⟩,λφ j B w g vs i hB a=>?_⟩
 refine(c.2.2 φ j B w g vs i hB a).mono λn w' ⟨v,r,h',g',m,⟨L,l,_,n1⟩,_,d,k⟩=>?_
 subst l
 rw[jW j] at d k
 have b:(fill φ h).length=h.length:=jo
 exact⟨_,_,h,g',m,⟨rfl,rfl⟩,.refl,d.drop rfl (by have:=i.ids;exact this),n1 B w' g' _ b d.ok _ k⟩
end Go.Proofs.YtigdlmpjijhpaaaGreat.Ax
namespace Go.Proofs.YtigdlmpjijhpaaaGreat.Ax
open Go Go.Proofs
set_option maxRecDepth 100000
theorem ChI.fl{s:Setup}(f:SFit s){x:Ch}(i:ChI s x):FlR x.rows:=λr a=>by
 rw[i.val r a]
 exact Zha f (by have:=i.bk.few;omega)
theorem Vba(n:Nat):((List.range n).flatMap λw=>(List.range 53).map λk=>(((w:Nat):Int),((k:Nat):Int))).length=n*53:=by
 induction n with
 | zero=>rfl
 | succ n a=>
   rw[List.range_succ (n:=n),List.flatMap_append,zf,a]
   simp
   omega
theorem ChI.len{s:Setup}{x:Ch}(i:ChI s x):x.rows.length<=s.rates.length*53:=by
 have d:(x.rows.map ja).Nodup:=by
  rw[List.Nodup,List.pairwise_map]
  exact i.srt.imp λh=>ZV h
 have:=QW (b:=(List.range s.rates.length).flatMap λw=>(List.range 53).map λk=>(((w:Nat):Int),((k:Nat):Int))) d λk a=>by
  obtain⟨r,c,rfl⟩:=zr.1 a
  obtain⟨⟨j,g⟩,f,e⟩:=i.rng r c
  rw[List.mem_flatMap]
  refine⟨(ja r).1.toNat,by rw[qW];omega,?_⟩
  rw[zr]
  exact⟨(ja r).2.toNat,by rw[qW];omega,Prod.ext (by simp only;omega) (by simp only;omega)⟩
 rw[zb,Vba] at this
 exact this
section
variable {h0 H:List Ob} {d:Nat} {s:Setup} {b:Bk} {R:List RW} {ks:List Ky}
theorem xwb(i:ShI h0 H d s b R ks)(e:Nat)(o:H[e]? =some (.box 158 [.ptr d 0]))(l:yL R)(p:R.length<1099511627776)(n:FlR R)(k:Ky):
  ACalls Tryz.prog 89 [.ag (jm k),.ptr e 0] H λr h'=>r=bl (isH R k)/\h'=H:=by
 obtain⟨h,u,v,j,q⟩:=i.box
 have m:=(frM s H).ones
 have a:=j.rows.one
 have g:=q.rows.one
 have c:∀M,(H++M)[d]? =some (xI s b h u):=λM=>ze v
 have f:∀M,(H++M)[e]? =some (.box 158 [.ptr d 0]):=λM=>ze o
 refine zi Tryz.f89 [.tmp 3] 16 rfl rfl rfl rfl rfl rfl (by decide) (⟨_,_,⟨rfl,rfl⟩,.refl⟩) λB=>?_
 simp only[go_sem,jm]
 refine zL rfl [.res] 1 [(0,0,[]),(1,0,[]),(2,0,[]),(3,0,[]),(4,0,[]),(5,0,[]),(6,0,[]),(7,0,[]),(8,0,[]),(9,0,[]),(10,0,[]),(11,0,[])] rfl (by decide) (by decide) ?_
 simp only[go_sem,c,f,m,a,g,jm]
 refine zg (KUa _ s (frA s) (frM s _) (BX b) (BC b) h rfl rfl R k (j.app _).rows l p n) ?_
 rintro _ w ⟨rfl,t⟩
 rw[t]
 simp only[go_sem,q9,ve,List.cons_append,List.nil_append]
 refine zn ?_<;>(simp only[go_sem]<;>try rfl)
theorem kvb(i:ShI h0 H d s b R ks)(a c:Nat)(j:H[a]? =some (.box 158 [.ptr d 0]))(l:H[c]? =some (.box 162 [.fn (.func 89) [] [.ptr a 0]]))(g:yL R)(m:R.length<1099511627776)(h:FlR R)(k:Ky):
  ACalls Tryz.prog 90 [.ag (jm k),.ptr c 0] H λr h'=>r=bl (isH R k==false)/\h'=H:=by
 have e:∀M,(H++M)[c]? =some (.box 162 [.fn (.func 89) [] [.ptr a 0]]):=λM=>ze l
 refine zi Tryz.f90 [.tmp 3] 8 rfl rfl rfl rfl rfl rfl (by decide) (⟨_,_,⟨rfl,rfl⟩,.refl⟩) λB=>?_
 simp only[go_sem,jm]
 simp only[go_sem,e]
 refine zg (xwb (i.app (zD rfl)) a (ze j) g m h k) ?_
 rintro _ o ⟨rfl,n⟩
 rw[n]
 have f:(!isH R k)=(isH R k==false):=by cases isH R k<;>rfl
 simp only[go_sem,f]
 refine zn ?_<;>(simp only[go_sem]<;>try rfl)
end
theorem ShI.ext{h0 H a:List Ob}{d:Nat}{s:Setup}{b:Bk}{R:List RW}{ks:List Ky}(i:ShI h0 H d s b R ks)(p:Pre H a):ShI h0 a d s b R ks:=by
 obtain⟨L,rfl,c⟩:=p
 exact i.app c
theorem Pre.get{H a:List Ob}(p:Pre H a){j:Nat}{o:Ob}(h:H[j]? =some o):a[j]? =some o:=by
 obtain⟨L,rfl,_⟩:=p
 exact ze h
theorem OwnS.set2{h0 h:List Ob}{ty e:Nat}{x:AV}{rows:List (List AV)}(k:OwnS h0 h ty e x rows){i j t1 t2:Nat}{d b:List AV}(hi:h[i]? =some (.box t1 d))(c:h[j]? =some (.box t2 b))(a:i≠j)(o p:Ob):OwnS h0 ((h.set i o).set j p) ty e x rows:=
 OwnS.setB (k.setB hi) (by rw[zc a];exact c)
theorem Zpa{h0 h a:List Ob}{ty e:Nat}{x:AV}{rows:List (List AV)}(k:OwnS h0 h ty e x rows)(p:Pre h a):OwnS h0 a ty e x rows:=by
 obtain⟨L,rfl,_⟩:=p
 exact k.app L
theorem Jia{s:Setup}{q:Cm}(a:q.kind=7){n:Nat}(h:n<s.rates.length):((vf s q).take (n+1)).map jm=((vf s q).take n).map jm++[[i64 n,i64 q.week]]:=by
 have b:n<(vf s q).length:=by unfold vf;rw[if_pos a,zb,js];exact h
 rw[show(vf s q).take (n+1)=(vf s q).take n++[(vf s q)[n]] from(zE b).symm,zw]
 congr 1
 unfold vf
 simp[a,jm]
theorem Yda{s:Setup}{q:Cm}:(vf s q).length=if q.kind=7 then s.rates.length else 1:=by
 unfold vf
 split
 ·rw[zb,js]
 ·rfl
set_option maxHeartbeats 8000000 in
theorem kwb(h0 H:List Ob)(d j7 P:Nat)(s:Setup)(f:SFit s)(x:Ch)(xi:ChI s x)(i:ShI h0 H d s x.bk x.rows [])(h7:H[j7]? =some (.box 158 [.ptr d 0]))(h8:H[P]? =some (.box 162 [.fn (.func 89) [] [.ptr j7 0]]))(d7:j7≠d)(d8:P≠d)
  (q:Cm) (hk:q.kind=3∨q.kind=7) (hrl:s.rates.length<4096):
  ACalls Tryz.prog 91 [.ptr d 0,.ag (ym q),.fn (.func 90) [] [.ptr P 0]] H λr H'=>∃S v Y kv,r= .tup [.ag (jL s (frA s) (BX x.bk) (BC x.bk) S),.ag [i64 (vg s x q).2.1.err,v,nl,Y],kv]/\Pre h0 H'/\
   OwnS h0 H' 45 27 S ((vg s x q).1.rows.map q9)/\OwnS h0 H' 45 27 v ((vg s x q).2.1.rows.map q9)/\SlN Y 1 ((vg s x q).2.1.bytes.map xv)/\OwnS h0 H' 90 2 kv ((vg s x q).2.2.map jm)/\BoxD d H H':=by
 have hex:∃r H',(∃S v Y kv,r=AV.tup [.ag (jL s (frA s) (BX x.bk) (BC x.bk) S),.ag [i64 (vg s x q).2.1.err,v,nl,Y],kv]/\Pre h0 H'/\
   OwnS h0 H' 45 27 S ((vg s x q).1.rows.map q9)/\OwnS h0 H' 45 27 v ((vg s x q).2.1.rows.map q9)/\SlN Y 1 ((vg s x q).2.1.bytes.map xv)/\OwnS h0 H' 90 2 kv ((vg s x q).2.2.map jm)/\BoxD d H H')/\ResK H H':=by
  have hl:=i.pre.len
  refine⟨_,H++[.row 45 27 ((vg s x q).1.rows.map q9) 0,.row 45 27 ((vg s x q).2.1.rows.map q9) 0,.row 90 2 ((vg s x q).2.2.map jm) 0],⟨.tl H.length 0,.tl (H.length+1) 0,_,.tl (H.length+2) 0,rfl,i.pre.app (zl rfl (zl rfl (zD rfl))),.inr ⟨_,_,hl,rfl,by rw[zM rfl];rfl⟩,.inr ⟨_,_,by omega,rfl,by rw[zG (k:=1) rfl];rfl⟩,.inl rfl,.inr ⟨_,_,by omega,rfl,by rw[zG (k:=2) rfl];rfl⟩,BoxD.refl.app _⟩,resK_app⟩
 obtain⟨S,kv,q1,q2,q3⟩:=i.box
 have G:=i.pre
 have hdl:=i.dl
 have hd:=(zd.1 q1).1
 have ho:=(frM s H).ones
 have Z:=q2.rows.one
 have hko:=q3.rows.one
 have hbM:∀M,(H++M)[d]? =some (xI s x.bk S kv):=λM=>ze q1
 have hrr:∀M,qa (H++M) (frA s).r=some (s.rates.map qn):=λM=>(frM s (H++M)).r.rows
 have ξ:=z3a xi hk
 refine jN (N:=150) (rs:=[.cell 6 83,.cell 7 71,.tmp 8]) (fn:=Tryz.f91) rfl rfl rfl rfl (qo rfl) rfl (hex) λB=>?_
 refine qG (by decide) ?_
 simp only[go_sem]
 obtain⟨V,l⟩:∃V,V=H++[Ob.box 79 (ym q),.box 83 (jL zS zA jF jF jF),.box 71 [i64 0,nl,nl,nl]]:=⟨_,rfl⟩
 have R:V[H.length]? =some (.box 79 (ym q)):=by rw[l,zM rfl];rfl
 have c6:V[H.length+1]? =some (.box 83 (jL zS zA jF jF jF)):=by rw[l,zG (k:=1) rfl];rfl
 have c7:V[H.length+2]? =some (.box 71 [i64 0,nl,nl,nl]):=by rw[l,zG (k:=2) rfl];rfl
 have cd:V[d]? =some (xI s x.bk S kv):=by rw[l];exact hbM _
 have i1:ShI h0 V d s x.bk x.rows []:=by rw[l];exact i.app (zl rfl (zl rfl (zD rfl)))
 have b7:V[j7]? =some (.box 158 [.ptr d 0]):=by rw[l];exact ze h7
 have b8:V[P]? =some (.box 162 [.fn (.func 89) [] [.ptr j7 0]]):=by rw[l];exact ze h8
 have r1:qa V (frA s).r=some (s.rates.map qn):=(frM s V).r.rows
 have o2:OwnS h0 V 45 27 S (x.rows.map q9):=by rw[l];exact q2.app _
 have hHH:=l
 simp only[zS,zA,jF] at hHH c6
 rw[<-hHH]
 clear hHH
 refine jS (xr (λT D=>D=V/\T 0= .ptr d 0/\T 2= .fn (.func 90) [] [.ptr P 0]/\T 4= .ptr H.length 0/\T 6= .ptr (H.length+1) 0/\T 7= .ptr (H.length+2) 0/\T 9=bl (kz q)) (by decide) ?_ ?_)
 ·cases g1:decide (q.week≥0)
  ·simp only[go_sem,R,g1,qt]
   rw[kz,g1];rfl
  ·simp only[go_sem,R,g1,qt]
   rw[kz,g1];rfl
 rintro T D ⟨rfl,t0,t2,t4,t6,b,t9⟩
 have g:H.length+1≠H.length+2:=by omega
 have p1:=i1.pre
 have hlen1:D.length=H.length+3:=by rw[l,zf];rfl
 refine xr (λa j=>j=D/\a 0= .ptr d 0/\a 2= .fn (.func 90) [] [.ptr P 0]/\a 4= .ptr H.length 0/\a 6= .ptr (H.length+1) 0/\a 7= .ptr (H.length+2) 0/\a 9=bl (kz q)/\¬ (q.kind=3/\jf s q=false)) (by decide) ?_ ?_
 ·refine w9 (λa j=>j=D/\a 0= .ptr d 0/\a 2= .fn (.func 90) [] [.ptr P 0]/\a 4= .ptr H.length 0/\a 6= .ptr (H.length+1) 0/\a 7= .ptr (H.length+2) 0/\a 9=bl (kz q)/\a 45=bl (q.kind==3 && !jf s q)) ?_ ?_
  ·simp only[go_sem]
   refine zL rfl [] 0 [(0,0,[]),(1,0,[]),(2,0,[]),(3,0,[]),(4,0,[]),(5,0,[]),(6,0,[]),(7,0,[]),(8,0,[]),(10,0,[]),(11,0,[]),(12,0,[]),(13,0,[]),(14,0,[]),(15,0,[]),(9,0,[]),(16,0,[]),(17,0,[]),(18,0,[]),(19,0,[]),(20,0,[])] rfl (by decide) (by decide) ?_
   cases g3:q.kind==3
   ·simp only[go_sem,t0,t2,t4,t6,b,t9,R,cd,g3,qt]
   ·cases g1:decide (q.worker<0)
    ·have C:jf s q= !decide (q.worker≥(s.rates.length:Int)):=by
      rw[decide_eq_false_iff_not] at g1
      unfold jf
      rw[decide_eq_true (show q.worker≥0 by omega),Bool.true_and, <-decide_not]
      exact decide_eq_decide.2 (by omega)
     simp only[go_sem,t0,t2,t4,t6,b,t9,R,cd,g3,g1,r1,ho,qt,zb]
     rw[C];simp
    ·have C:jf s q=false:=by
      rw[decide_eq_true_eq] at g1
      unfold jf
      rw[decide_eq_false (show ¬ q.worker≥0 by omega)]
      rfl
     simp only[go_sem,t0,t2,t4,t6,b,t9,R,cd,g3,g1,r1,ho,qt,zb]
     rw[C];rfl
  clear t0 t2 t4 t6 b t9
  rintro T j ⟨rfl,t0,t2,t4,t6,b,t9,t45⟩
  cases C:(q.kind==3 && !jf s q)
  ·simp only[go_sem,t45,C,qt]
   refine⟨t0,t2,t4,t6,b,t9,λ⟨z1,z2⟩=>?_⟩
   rw[z1,z2] at C
   cases C
  ·have hc:q.kind=3/\jf s q=false:=by
    rw[zq,beq_iff_eq,Bool.not_eq_true'] at C
    exact C
   have he:vg s x q=(x,wt 80,[]):=by unfold vg;rw[if_pos hc]
   rw[he]
   have ε:∀o,(j.set (H.length+1) o)[H.length+2]? =some (.box 71 [i64 0,nl,nl,nl]):=λo=>by rw[zc g];exact c7
   simp only[go_sem,t45,C,qt,t0,t6,b,cd,c6,c7,ε,ho,Z,hko]
   have g6:∀o p,((j.set (H.length+1) o).set (H.length+2) p)[H.length+1]? =some o:=λo p=>by rw[zc g.symm];exact zm c6
   have I:∀o p,((j.set (H.length+1) o).set (H.length+2) p)[H.length+2]? =some p:=λo p=>zm (ε o)
   refine⟨.tup [.ag (jL s (frA s) (BX x.bk) (BC x.bk) S),.ag [i64 80,nl,nl,nl],nl],by simp only[go_sem,t6,b,g6,I,ho,Z],.inl ⟨S,nl,nl,nl,rfl,(p1.set (by have:=G.len;omega) rfl).set (by have:=G.len;omega) rfl,o2.set2 c6 c7 g _ _,.inl ⟨rfl,rfl⟩,.inr ⟨rfl,rfl⟩,.inl ⟨rfl,rfl⟩,by rw[l];exact((BoxD.refl.app _).setNew (by omega) _).setNew (by omega) _⟩⟩
 clear t0 t2 t4 t6 b t9
 rintro T D ⟨rfl,t0,t2,t4,t6,b,t9,hw3⟩
 refine xr (λa j=>j=D/\a 0= .ptr d 0/\a 2= .fn (.func 90) [] [.ptr P 0]/\a 4= .ptr H.length 0/\a 6= .ptr (H.length+1) 0/\a 7= .ptr (H.length+2) 0/\¬ (kz q=false∨(q.kind=7/\jv x.bk.shut q.week=false))) (by decide) ?_ ?_
 ·refine w9 (λa j=>j=D/\a 0= .ptr d 0/\a 2= .fn (.func 90) [] [.ptr P 0]/\a 4= .ptr H.length 0/\a 6= .ptr (H.length+1) 0/\a 7= .ptr (H.length+2) 0/\a 69=bl (!kz q || (q.kind==7 && !jv x.bk.shut q.week))) ?_ ?_
  ·simp only[go_sem]
   refine zL rfl [] 0 [(0,0,[]),(1,0,[]),(2,0,[]),(3,0,[]),(4,0,[]),(5,0,[]),(6,0,[]),(7,0,[]),(8,0,[]),(9,0,[]),(10,0,[]),(11,0,[]),(13,0,[]),(12,0,[]),(14,0,[]),(15,0,[]),(16,0,[]),(17,0,[]),(18,0,[])] rfl (by decide) (by decide) ?_
   cases g9:kz q
   ·rw[g9] at t9
    simp only[go_sem,t0,t4,t6,b,t9,R,cd,qt]
    exact t2
   ·rw[g9] at t9
    cases g3:q.kind==7
    ·simp only[go_sem,t0,t4,t6,b,t9,R,cd,g3,qt]
     exact t2
    ·simp only[go_sem,t0,t4,t6,b,t9,R,cd,g3,qt,ho,Z,hko]
     refine zg (q5a _ (BC x.bk) x.bk.shut q.week ⟨rfl,λ_=>rfl⟩ (by have:=Vu xi.bk;omega)) ?_
     rintro _ h3 ⟨rfl,e3⟩
     rw[e3]
     clear e3
     simp only[go_sem,t0,t4,t6,b,t9,R,cd,g3,qt,ho,Z,hko]
     exact⟨t2,rfl⟩
  clear t0 t2 t4 t6 b t9
  rintro T j ⟨rfl,t0,t2,t4,t6,b,t69⟩
  cases C:(!kz q || (q.kind==7 && !jv x.bk.shut q.week))
  ·simp only[go_sem,t69,C,qt]
   refine⟨t0,t2,t4,t6,b,λz=>?_⟩
   rw[zY] at C
   rcases z with z|⟨z1,z2⟩
   ·rw[z] at C;cases C.1
   ·rw[z1,z2] at C;cases C.2
  ·have hc:kz q=false∨(q.kind=7/\jv x.bk.shut q.week=false):=by
    rw[Bool.or_eq_true,Bool.not_eq_true',zq,beq_iff_eq,Bool.not_eq_true'] at C
    exact C
   have he:vg s x q=(x,wt 212,[]):=by unfold vg;rw[if_neg hw3,if_pos hc]
   rw[he]
   have ε:∀o,(j.set (H.length+1) o)[H.length+2]? =some (.box 71 [i64 0,nl,nl,nl]):=λo=>by rw[zc g];exact c7
   simp only[go_sem,t69,C,qt,t0,t6,b,cd,c6,c7,ε,ho,Z,hko]
   have g6:∀o p,((j.set (H.length+1) o).set (H.length+2) p)[H.length+1]? =some o:=λo p=>by rw[zc g.symm];exact zm c6
   have I:∀o p,((j.set (H.length+1) o).set (H.length+2) p)[H.length+2]? =some p:=λo p=>zm (ε o)
   refine⟨.tup [.ag (jL s (frA s) (BX x.bk) (BC x.bk) S),.ag [i64 212,nl,nl,nl],nl],by simp only[go_sem,t6,b,g6,I,ho,Z],.inl ⟨S,nl,nl,nl,rfl,(p1.set (by have:=G.len;omega) rfl).set (by have:=G.len;omega) rfl,o2.set2 c6 c7 g _ _,.inl ⟨rfl,rfl⟩,.inr ⟨rfl,rfl⟩,.inl ⟨rfl,rfl⟩,by rw[l];exact((BoxD.refl.app _).setNew (by omega) _).setNew (by omega) _⟩⟩
 clear t0 t2 t4 t6 b t9
 rintro T H1' ⟨rfl,t0,t2,t4,t6,b,hw7⟩
 obtain⟨X,new,so,ω,hin,hsk,hask⟩:∃X new,SomeOk s x.bk.evs false x.rows (vf s q) X new/\ChI s ⟨x.bk,X⟩/\(∀k∈vf s q,isH X k=true)/\kC s x.bk.evs false (x.rows,[]) (vf s q)=(X,new)/\
   vg s x q=(⟨x.bk,X⟩,⟨if q.kind=7 then(j5 ((vf s q).map λk=>qm s x.bk.evs k.1 k.2)).2 else 0,(vf s q).map λk=>qm s x.bk.evs k.1 k.2,[],if q.kind=7 then(j5 ((vf s q).map λk=>qm s x.bk.evs k.1 k.2)).1 else []⟩,new):=by
  rcases ξ with⟨z,_⟩|⟨_,z,_⟩|⟨_,_,_,X,new,z1,z2,z3,z4,z5⟩
  ·exact absurd z hw3
  ·exact absurd z hw7
  ·exact⟨X,new,z1,z2,z3,z4,z5⟩
 clear ξ
 rw[hask]
 clear hask
 have ν:=Yda (s:=s) (q:=q)
 obtain⟨K,hK⟩:∃K,K=vf s q:=⟨_,rfl⟩
 have hKl:K.length<4096:=by rw[hK,ν];split<;>omega
 obtain⟨D,hh1⟩:∃D,D=H1':=⟨_,rfl⟩
 rw[<-hh1] at R c6 c7 cd i1 b7 b8 r1 o2 p1 hlen1 l⊢
 clear hh1
 refine qG (by decide) ?_
 simp only[go_sem,t4,R]
 have c4M:∀M,(D++M)[H.length]? =some (.box 79 (ym q)):=λM=>ze R
 refine jS (xr (λa j=>Pre D j/\a 0= .ptr d 0/\a 2= .fn (.func 90) [] [.ptr P 0]/\a 4= .ptr H.length 0/\a 6= .ptr (H.length+1) 0/\a 7= .ptr (H.length+2) 0/\OwnS D j 90 2 (a 10) (K.map jm)) (by decide) ?_ ?_)
 ·cases I:q.kind==7
  ·have hn7:¬ q.kind=7:=by simpa using I
   have hKe:K=[(q.worker,q.week)]:=by rw[hK];unfold vf;rw[if_neg hn7]
   simp only[go_sem,t4,c4M,I,qt]
   exact⟨⟨_,rfl,zD rfl⟩,t0,t2,t6,b,.inr ⟨D.length,0,zo _,rfl,by rw[zM rfl,hKe];rfl⟩⟩
  ·have ρ:q.kind=7:=by simpa using I
   have hKe:K.length=s.rates.length:=by rw[hK,ν,if_pos ρ]
   have hKt:∀ {n:Nat},n<s.rates.length->(K.take (n+1)).map jm=(K.take n).map jm++[[i64 n,i64 q.week]]:=λh=>by rw[hK];exact Jia ρ h
   obtain⟨M0,hM0⟩:∃M0,M0=[Ob.row 90 2 [[i64 q.worker,i64 q.week]] 0]:=⟨_,rfl⟩
   have hM0N:NoRes M0:=by rw[hM0];exact zD rfl
   have cdM:(D++M0)[d]? =some (xI s x.bk S kv):=ze cd
   have rM:=(frM s (D++M0)).r.rows
   simp only[go_sem,t4,c4M,I,qt]
   rw[<-hM0]
   simp only[go_sem,t0,cdM,rM,ho,zb]
   refine zI (by decide) (λm a j=>∃(n:Nat) (y:AV),n<=s.rates.length/\Pre D j/\OwnS D j 90 2 y ((K.take n).map jm)/\a 0= .ptr d 0/\a 2= .fn (.func 90) [] [.ptr P 0]/\a 4= .ptr H.length 0/\a 6= .ptr (H.length+1) 0/\a 7= .ptr (H.length+2) 0/\a 10=y/\a 91=i64 s.rates.length/\a 92=i64 n/\m=s.rates.length - n) s.rates.length
    ⟨0,nl,by omega,⟨M0,rfl,hM0N⟩,.inl ⟨rfl,rfl⟩,by simp only[go_sem,t0],by simp only[go_sem,t2],by simp only[go_sem,t4],by simp only[go_sem,t6],by simp only[go_sem,b],by(simp only[go_sem]<;>rfl),by(simp only[go_sem]<;>rfl),by(simp only[go_sem]<;>rfl),rfl⟩ ?_
   clear t0 t2 t4 t6 b
   rintro m a j ⟨n,y,hn,c,ow,t0,t2,t4,t6,b,t10,t91,t92,rfl⟩
   have σ:=c.get R
   simp only[go_sem,t91,t92]
   refine ways (λe=>?_) (λe=>?_)
   ·have α:=dlt e
    have hnx:=hKt α
    rcases ow with⟨rfl,F⟩|⟨id,st,u1,rfl,u3⟩
    ·simp only[go_sem,t4,t10,t92,σ]
     refine⟨s.rates.length - (n+1),by omega,n+1,_,by omega,c.app (zl rfl (zD rfl)),.inr ⟨j.length+1,0,by have:=c.len;omega,rfl,?_⟩,t0,t2,t6,b,rfl,t91,qf (by omega) rfl,rfl⟩
     rw[hnx,F,zG (k:=1) rfl];rfl
    ·have hg2:∀M,(j++M)[id]? =some (.row 90 2 ((K.take n).map jm) st):=λM=>ze u3
     have κ:(((K.take n).map jm).length+1)*17<=140737488355328:=by
      rw[zb,zJ]
      omega
     simp only[go_sem,t4,t10,t92,σ,hg2,κ]
     refine⟨s.rates.length - (n+1),by omega,n+1,_,by omega,(c.app (zD rfl)).set u1 rfl,.inr ⟨id,st+1,u1,rfl,?_⟩,t0,t2,t6,b,rfl,t91,qf (by omega) rfl,rfl⟩
     rw[hnx]
     exact zm (hg2 _)
   ·have hge:=j9 e
    have hn2:n=s.rates.length:=by omega
    subst hn2
    simp only[go_sem]
    rw[<-hKe,zP] at ow
    exact⟨c,t0,t2,t4,t6,b,by rw[t10];exact ow⟩
 clear t0 t2 t4 t6 b
 rintro T j ⟨c,t0,t2,t4,t6,b,ow⟩
 refine YU (λa j=>Pre D j/\a 0= .ptr d 0/\a 2= .fn (.func 90) [] [.ptr P 0]/\a 4= .ptr H.length 0/\a 6= .ptr (H.length+1) 0/\a 7= .ptr (H.length+2) 0/\∀H,SlOf H (a 10) 2 (K.map jm)) (λnx=>?_) ?_
 ·rcases ow with⟨e10,F⟩|⟨id,st,u1,e10,u3⟩
  ·exact nx _ _ ⟨c,t0,t2,t4,t6,b,λH=>by rw[e10,F];exact⟨rfl,λh=>absurd rfl h⟩⟩
  ·refine Yx 10 e10 u3 (nx _ _ ⟨c.set u1 rfl,?_,?_,?_,?_,?_,λH=>?_⟩)
   ·rw[VI,if_neg (by decide)];exact t0
   ·rw[VI,if_neg (by decide)];exact t2
   ·rw[VI,if_neg (by decide)];exact t4
   ·rw[VI,if_neg (by decide)];exact t6
   ·rw[VI,if_neg (by decide)];exact b
   ·rw[VI,if_pos rfl];exact⟨rfl,λ_=>rfl⟩
 clear t0 t2 t4 t6 b ow c T j
 rintro T j ⟨c,t0,t2,t4,t6,b,Q⟩
 obtain⟨y,t10⟩:∃y,T 10=y:=⟨_,rfl⟩
 rw[t10] at Q
 have i2:=i1.ext c
 have b7':=c.get b7
 have b8':=c.get b8
 have xlen:=xi.len
 have xlen2:x.rows.length<900000:=by
  have:s.rates.length*53<=4096*53:=Nat.mul_le_mul_right _ (by omega)
  omega
 refine jS (qG (by decide) ?_)
 simp only[go_sem,t0,t2,t10]
 refine zg (YNa h0 j y d s f x.bk x.rows [] K false _ _ Q i2 xi.srt (λk hk=>by rw[hK] at hk;exact(Zfa (by omega) hw3 hk).1.1) (by have:=xi.bk.few;omega) xlen2 (by decide) (by omega) (xi.fl f) (λH5 R5 ks5 i5 bk5 s5 l5 f5 k5 hk5=>kvb i5 j7 P (bk5 j7 _ _ d7 b7') (bk5 P _ _ d8 b8') s5 (by omega) f5 k5)) ?_
 rintro _ H3 ⟨rfl,i3,bk3⟩
 rw[hK,hsk] at i3
 simp only at i3
 have dH:d<H.length:=hd
 have e4:=bk3 _ _ _ (by omega) (c.get R)
 have e6:=bk3 _ _ _ (by omega) (c.get c6)
 have e7:=bk3 _ _ _ (by omega) (c.get c7)
 obtain⟨J,θ,ed,or3,ok3⟩:=i3.box
 have ι:=or3.rows.one
 have ο:=ok3.rows.one
 have p3:=i3.pre
 have srt3:=ω.srt
 have fl3:=ω.fl f
 have len3:X.length<1099511627776:=by
  have:X.length<=s.rates.length*53:=ω.len
  have:s.rates.length*53<=4096*53:=Nat.mul_le_mul_right _ (by omega)
  omega
 simp only[go_sem]
 refine jS (qG (by decide) ?_)
 simp only[go_sem]
 have ζ:=λM=>(Q M).rows
 have hKw:∀k∈K,Jt X k=qm s x.bk.evs k.1 k.2:=λk hk=>ω.get (hin k (by rw[<-hK];exact hk))
 obtain⟨wf,hwf⟩:∃wf:Ky->List AV,wf=λk=>q9 (qm s x.bk.evs k.1 k.2):=⟨_,rfl⟩
 have hwfk:∀k,wf k=q9 (qm s x.bk.evs k.1 k.2):=λk=>by rw[hwf]
 refine jS (xr (λa A=>∃v,Pre H3 A/\A[H3.length]? =some (.box 71 [i64 0,v,nl,nl])/\OwnS H3 A 45 27 v (K.map wf)/\a 0= .ptr d 0/\a 4= .ptr H.length 0/\a 6= .ptr (H.length+1) 0/\a 7= .ptr (H.length+2) 0/\a 12= .ptr H3.length 0) (by decide) ?_ ?_)
 ·simp only[go_sem,t10,ζ,zb]
  refine zI (by decide) (λm a A=>∃(n:Nat) (v:AV),n<=K.length/\Pre H3 A/\A[H3.length]? =some (.box 71 [i64 0,v,nl,nl])/\OwnS H3 A 45 27 v ((K.take n).map wf)/\a 0= .ptr d 0/\a 4= .ptr H.length 0/\a 6= .ptr (H.length+1) 0/\a 7= .ptr (H.length+2) 0/\a 12= .ptr H3.length 0/\a 108=y/\a 109=i64 K.length/\a 110=i64 n/\m=K.length - n) K.length
   ⟨0,nl,by omega,⟨_,rfl,zD rfl⟩,by rw[zM rfl];rfl,.inl ⟨rfl,rfl⟩,by simp only[go_sem,t0],by simp only[go_sem,t4],by simp only[go_sem,t6],by simp only[go_sem,b],by simp only[go_sem],by simp only[go_sem],by(simp only[go_sem]<;>rfl),by(simp only[go_sem]<;>rfl),rfl⟩ ?_
  clear t0 t2 t4 t6 b t10
  rintro m a A ⟨n,v,hn,U,a5,t,t0,t4,t6,b,u,η,μ,L,rfl⟩
  have ed5:=U.get ed
  have edM:∀M,(A++M)[d]? =some (xI s x.bk J θ):=λM=>ze ed5
  have χ:∀M,(A++M)[H3.length]? =some (.box 71 [i64 0,v,nl,nl]):=λM=>ze a5
  have or5:∀M,SlOf (A++M) J 27 (X.map q9):=λM=>(U.sl or3.rows).app M
  have υ:=t.rows.one
  simp only[go_sem,μ,L]
  refine ways (λe=>?_) (λe=>?_)
  ·have α:=dlt e
   have hrow:=KYa α
   have hkl:(n:Int)<K.length:=by omega
   have hxe:=λM=>(Q M).at (i:=n) (by simpa using α)
   have hkw:=hKw _ (zy α)
   have htk:(K.take (n+1)).map wf=(K.take n).map wf++[q9 (qm s x.bk.evs (K[n]).1 (K[n]).2)]:=by
    rw[show K.take (n+1)=K.take n++[K[n]] from(zE α).symm,zw,List.map_cons,hwfk];rfl
   obtain⟨k,hk'⟩:∃k,k=K[n]:=⟨_,rfl⟩
   rw[<-hk'] at hrow hkw htk
   have hkA:(K.map jm)[n]? =some [i64 k.1,i64 k.2]:=hrow
   simp only[go_sem,η,L,ζ,hxe,hkA,hkl,zb,Int.toNat_natCast,zh]
   refine zL rfl [.res] 1 [(0,0,[]),(1,0,[]),(2,0,[]),(3,0,[]),(4,0,[]),(5,0,[]),(6,0,[]),(7,0,[]),(8,0,[]),(9,0,[]),(10,0,[]),(11,0,[])] rfl (by decide) (by decide) ?_
   have hkM:∀M,(A++(Ob.box 90 (jm k)::M))[A.length]? =some (.box 90 (jm k)):=λM=>by rw[zM rfl];rfl
   simp only[go_sem,t0,edM,ho,ι,ο,jm]
   refine zg (KUa _ s (frA s) (frM s _) (BX x.bk) (BC x.bk) J rfl rfl X k (or5 _) srt3 len3 fl3) ?_
   rintro _ O ⟨rfl,E⟩
   rw[E,hkw]
   clear E
   obtain⟨w,hw⟩:∃w,w=qm s x.bk.evs k.1 k.2:=⟨_,rfl⟩
   rw[<-hw] at htk⊢
   rcases t with⟨rfl,F⟩|⟨jd,su,u1,rfl,u3⟩
   ·simp only[go_sem,u,L,χ,q9,ve,List.cons_append,List.nil_append]
    refine⟨K.length - (n+1),by omega,n+1,.tl (A.length+3) 0,by omega,(U.app (zl rfl (zl rfl (zl rfl (zD rfl))))).set (zo _) rfl,zm (χ _),.inr ⟨A.length+3,0,by have:=U.len;omega,rfl,?_⟩,t0,t4,t6,b,η,μ,qf (by omega) rfl,rfl⟩
    have:=(zd.1 a5).1
    rw[zc (by omega),zG (k:=3) rfl,htk,F];rfl
   ·have hg:∀M,(A++M)[jd]? =some (.row 45 27 ((K.take n).map wf) su):=λM=>ze u3
    have κ:(((K.take n).map wf).length+1)*233<=140737488355328:=by rw[zb,zJ];omega
    have hbS:∀M o',((A++M).set jd o')[H3.length]? =some (.box 71 [i64 0,.tl jd su,nl,nl]):=λM o'=>xq (h0:=A) (χ M) (hg M)
    simp only[go_sem,u,L,χ,hg,κ,hbS,q9,ve,List.cons_append,List.nil_append]
    refine⟨K.length - (n+1),by omega,n+1,.tl jd (su+1),by omega,((U.app (zl rfl (zl rfl (zD rfl)))).set u1 rfl).set (zo _) rfl,zm (hbS _ _),.inr ⟨jd,su+1,u1,rfl,?_⟩,t0,t4,t6,b,η,μ,qf (by omega) rfl,rfl⟩
    have hj:H3.length≠jd:=λe=>by rw[e,u3] at a5;cases a5
    rw[zc hj,htk]
    exact zm (hg _)
  ·have hge:=j9 e
   have hn2:n=K.length:=by omega
   subst hn2
   rw[zP] at t
   simp only[go_sem]
   exact⟨v,U,a5,t,t0,t4,t6,b,u⟩
 clear t0 t2 t4 t6 b t10
 rintro T A ⟨v,U,a5,t,t0,t4,t6,b,u⟩
 have σ:=U.get e4
 have i5:=i3.ext U
 have ed5:=U.get ed
 have E:=U.get e6
 have β:=U.get e7
 obtain⟨W,hW⟩:∃W,W=K.map λk=>qm s x.bk.evs k.1 k.2:=⟨_,rfl⟩
 have hKW:K.map wf=W.map q9:=by rw[hW,hwf,kE];rfl
 rw[hKW] at t
 refine xr (λa O=>∃Y e,Pre H3 O/\O[H3.length]? =some (.box 71 [i64 e,v,nl,Y])/\OwnS H3 O 45 27 v (W.map q9)/\a 0= .ptr d 0/\a 6= .ptr (H.length+1) 0/\a 7= .ptr (H.length+2) 0/\a 12= .ptr H3.length 0/\e=(if q.kind=7 then(j5 W).2 else 0)/\SlN Y 1 ((if q.kind=7 then(j5 W).1 else []).map xv)) (by decide) ?_ ?_
 ·cases I:q.kind==7
  ·have hn7:¬ q.kind=7:=by simpa using I
   rw[if_neg hn7,if_neg hn7]
   simp only[go_sem,t4,σ,I,qt]
   exact⟨nl,0,U,a5,t,t0,t6,b,u,rfl,.inr ⟨rfl,rfl⟩⟩
  ·have ρ:q.kind=7:=by simpa using I
   rw[if_pos ρ,if_pos ρ]
   have υ:=t.rows.one
   have hrw:W.map q9=(W.map λp:RowV × List Flg=>(⟨p.1,.sl 2 (p.2.map km),p.2⟩:RwA)).map λq=>vB q.1 q.2.1:=by rw[kE];rfl
   have hpure:kO (W.map λp:RowV × List Flg=>(⟨p.1,.sl 2 (p.2.map km),p.2⟩:RwA))=W:=by rw[kO,kE];exact List.map_id _
   simp only[go_sem,t4,u,σ,a5,I,qt]
   refine zg (Kra A v _ (by rw[<-hrw];exact t.rows) (λp hp=>by
    obtain⟨r,hr,rfl⟩:=zr.1 hp
    rw[hW] at hr
    obtain⟨w,_,rfl⟩:=zr.1 hr
    have:=Vt f x.bk.evs w.1 w.2 (by have:=xi.bk.few;omega)
    exact⟨⟨rfl,λ_=>rfl⟩,this.1,this.2⟩) (by rw[zb,hW,zb];omega)) ?_
   rintro _ O ⟨rfl,e9⟩
   rw[e9,hpure]
   clear e9
   have a5s:∀o,(A.set H3.length o)[H3.length]? =some o:=λo=>zm a5
   simp only[go_sem,u,a5,a5s,υ]
   exact⟨.sl 1 ((j5 W).1.map xv),(j5 W).2,(U.set (zo _) rfl).set (zo _) rfl,zm (a5s _),OwnS.setB (t.setB a5) (a5s _),t0,t6,b,rfl,.inl rfl⟩
 clear t0 t4 t6 b u a5 t
 rintro T O ⟨Y,e,p6,a6,ow6,t0,t6,b,u,he,hz⟩
 have ed6:=p6.get ed
 have E:=p6.get e6
 have β:=p6.get e7
 have υ:=ow6.rows.one
 have hzo:AV.one Y=true:=by rcases hz with rfl|⟨rfl,_⟩<;>rfl
 have e7s:∀o,(O.set (H.length+1) o)[H.length+2]? =some (.box 71 [i64 0,nl,nl,nl]):=λo=>by rw[zc g];exact β
 have hlH3:H.length+2<H3.length:=(zd.1 e7).1
 have a6s:∀o,(O.set (H.length+1) o)[H3.length]? =some (.box 71 [i64 e,v,nl,Y]):=λo=>by rw[zc (by omega)];exact a6
 have ed6s:∀o,(O.set (H.length+1) o)[d]? =some (xI s x.bk J θ):=λo=>by rw[zc (by omega)];exact ed6
 have ed7s:∀o p,((O.set (H.length+1) o).set (H.length+2) p)[d]? =some (xI s x.bk J θ):=λo p=>by rw[zc (by omega)];exact ed6s o
 refine qG (by decide) ?_
 simp only[go_sem]
 refine zL rfl [] 0 [(0,0,[]),(1,0,[]),(2,0,[]),(5,0,[]),(6,0,[]),(7,0,[]),(3,0,[]),(4,0,[]),(8,0,[]),(9,0,[4,8]),(10,0,[8]),(11,0,[])] rfl (by decide) (by decide) ?_
 simp only[go_sem,t0,t6,b,u,ed6,a6,a6s,ed6s,ed7s,E,β,e7s,ho,ι,ο,υ,hzo]
 have g6:∀o p,((O.set (H.length+1) o).set (H.length+2) p)[H.length+1]? =some o:=λo p=>by rw[zc g.symm];exact zm E
 have I:∀o p,((O.set (H.length+1) o).set (H.length+2) p)[H.length+2]? =some p:=λo p=>zm (e7s o)
 have l0:=G.len
 have p3':Pre h0 O:=p3.trans p6
 refine jS (jCa ⟨.tup [.ag (jL s (frA s) (BX x.bk) (BC x.bk) J),.ag [i64 e,v,nl,Y],θ],by simp only[go_sem,t6,b,g6,I,ho,ι,ο,υ,hzo],.inl ⟨J,v,Y,θ,?_,(p3'.set (by omega) rfl).set (by omega) rfl,?_,?_,?_,?_,?_⟩⟩)
 ·rw[he,hW,hK]
 ·exact(Zpa or3 p6).set2 E β g _ _
 ·rw[<-hK, <-hW]
  refine OwnS.set2 ?_ E β g _ _
  rcases ow6 with⟨z1,z2⟩|⟨jd,su,u1,z1,z2⟩
  ·exact .inl ⟨z1,z2⟩
  ·exact .inr ⟨jd,su,by have:=p3.len;omega,z1,z2⟩
 ·rw[<-hK, <-hW];exact hz
 ·exact(Zpa ok3 p6).set2 E β g _ _
 ·have b1:BoxD d H j:=by
   obtain⟨M,hM,_⟩:=c
   rw[hM,l,zt]
   exact BoxD.refl.app _
  have b2:BoxD d H O:=by
   obtain⟨M,hM,_⟩:=p6
   rw[hM]
   exact(b1.trans bk3).app _
  exact(b2.setNew (by omega) _).setNew (by omega) _
