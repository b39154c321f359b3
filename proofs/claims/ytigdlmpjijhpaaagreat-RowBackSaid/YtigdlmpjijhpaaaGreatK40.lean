import Derived.Test.YtigdlmpjijhpaaaGreatKA
import Derived.Test.YtigdlmpjijhpaaaGreatK39
import Derived.Test.YtigdlmpjijhpaaaGreatK24
import Derived.ScopeJumps
import Derived.Test.YtigdlmpjijhpaaaGreatK37
import Derived.Test.YtigdlmpjijhpaaaGreatK21
import Derived.Test.YtigdlmpjijhpaaaGreatK32
import Derived.Test.YtigdlmpjijhpaaaGreatK23
import Derived.Test.YtigdlmpjijhpaaaGreatK31
set_option linter.all false
namespace Go.Proofs.YtigdlmpjijhpaaaGreat.Ax
open Go Go.Proofs
set_option maxRecDepth 100000
def nd(n:Nat):Nat:=(Go.Lib.bitLen n+7) / 8
theorem vga:nd 0=0:=by decide
theorem JPa(n:Nat)(h0:n≠0)(h:n<18446744073709551616):nd n=nd (n / 256)+1:=by
 by_cases c:n<256
 ·have d:n / 256=0:=by omega
  rw[d,vga]
  have a:=Go.Lib.bitLen_le8 ⟨n,c⟩
  have b:1<=Go.Lib.bitLen n:=by have:=Go.Lib.bitLen_half n h0 h;omega
  unfold nd
  simp only at a
  omega
 ·have:=Go.Lib.bitLen_shift8 n (by omega) h
  unfold nd
  omega
theorem JQa:∀n,n<18446744073709551616->n<256 ^ nd n:=by
 intro n
 induction n using Nat.strongRecOn with
 | _ n a=>
   intro h
   by_cases h0:n=0
   ·subst h0;rw[vga];simp
   ·have b:=a (n / 256) (by omega) (by omega)
    rw[JPa n h0 h,Nat.pow_succ]
    omega
theorem Wsa(n:Nat)(h:n<18446744073709551616):nd n<=8:=by
 have:=Go.Lib.bitLen_le n 64 (by omega) (by omega)
 unfold nd
 omega
theorem Z5a{n:Nat}(h:n<=9223372036854775807):js (n:Int)=(nd n:Int):=by
 have a:IntKind.wrap .u64 (n:Int)=n:=by rw[IntKind.wrap_u64];omega
 have b:=Go.Lib.bitLen_le n 64 (by omega) (by omega)
 unfold js nd
 rw[a,Int.toNat_natCast,qb (n:=(Go.Lib.bitLen n:Int)+7) (by unfold Fit;omega),Int.tdiv_eq_ediv_of_nonneg (by omega),qb (by unfold Fit;omega)]
 omega
def By(l:List Int):Prop:=∀c∈l,0<=c/\c<256
def vD(l:List Int):Int:=l.foldl (λa c=>a*256+c) 0
theorem Z6a(l:List Int):∀a:Int,l.foldl (λa c=>a*256+c) a=a*256 ^ l.length+vD l:=by
 induction l with
 | nil=>intro a;simp[vD]
 | cons c l b=>
   intro a
   have e:=b (a*256+c)
   have d:=b (0*256+c)
   show l.foldl _ (a*256+c)=a*256 ^ (l.length+1)+l.foldl _ (0*256+c)
   rw[e,d,Int.pow_succ]
   grind
theorem WJ(c:Int)(l:List Int):vD (c::l)=c*256 ^ l.length+vD l:=by
 have:=Z6a l (0*256+c)
 show l.foldl _ (0*256+c)=_
 rw[this]
 simp
theorem Z7a(l:List Int)(c:Int):vD (l++[c])=vD l*256+c:=by simp[vD]
theorem By.tail{c:Int}{l:List Int}(h:By (c::l)):By l:=λx a=>h x (.tail _ a)
theorem By.take{l:List Int}(h:By l)(n:Nat):By (l.take n):=λx a=>h x (List.mem_of_mem_take a)
theorem By.drop{l:List Int}(h:By l)(n:Nat):By (l.drop n):=λx a=>h x (List.mem_of_mem_drop a)
theorem z4a:∀ {l:List Int},By l->0<=vD l/\vD l<256 ^ l.length
 | [],_=>⟨by decide,by decide⟩
 | c::l,h=>by
   obtain⟨e,b⟩:=z4a h.tail
   obtain⟨a,i⟩:=h c (.head _)
   have f:(0:Int)<256 ^ l.length:=Int.pow_pos (by decide)
   have g:0<=c*256 ^ l.length:=Int.mul_nonneg a (by omega)
   have d:c*256 ^ l.length<=255*256 ^ l.length:=Int.mul_le_mul_of_nonneg_right (by omega) (by omega)
   rw[WJ,List.length_cons,Int.pow_succ]
   omega
theorem Jh(n j:Nat)(c:j<=8):ZE (n:Int) j=((n / 256 ^ j % 256:Nat):Int):=by
 have a:(256:Nat) ^ j=2 ^ (8*j):=by rw[show(256:Nat)=2 ^ 8 from rfl, <-Nat.pow_mul]
 have b:min (8*j) 64=8*j:=by omega
 unfold ZE
 rw[b,a,IntKind.wrap_u8]
 have:((n:Int).fdiv (2 ^ (8*j)))=((n / 2 ^ (8*j):Nat):Int):=by
  rw[Int.fdiv_eq_ediv_of_nonneg _ (Int.le_of_lt (Int.pow_pos (by decide)))]
  norm_cast
 rw[this]
 norm_cast
theorem jJa(n:Nat):∀k,k<=9->vD (xj (n:Int) k)=((n % 256 ^ k:Nat):Int)
 | 0,_=>by simp[xj,vD,Nat.mod_one]
 | k+1,a=>by
   rw[xj,WJ,vS,jJa n k (by omega),Jh n k (by omega),Nat.pow_succ,Nat.mod_mul]
   norm_cast
   rw[Nat.mul_comm,Nat.add_comm]
theorem jKa(a b:Nat):∀(k j:Nat),j<=k->k<=8->xj ((a*256 ^ k+b:Nat):Int) j=xj (b:Int) j
 | k,0,_,_=>rfl
 | k,j+1,g,d=>by
   rw[xj,xj,jKa a b k j (by omega) d,Jh _ j (by omega),Jh _ j (by omega)]
   have e:a*256 ^ k=256 ^ j*(a*256 ^ (k - j)):=by
    rw[<-Nat.mul_assoc,Nat.mul_comm _ a,Nat.mul_assoc, <-Nat.pow_add,show j+(k - j)=k by omega]
   have f:(a*256 ^ k+b) / 256 ^ j=a*256 ^ (k - j)+b / 256 ^ j:=by
    rw[e,Nat.mul_add_div (Nat.pow_pos (by decide))]
   have c:a*256 ^ (k - j) % 256=0:=by
    rw[show k - j=(k - j - 1)+1 by omega,Nat.pow_succ, <-Nat.mul_assoc,Nat.mul_mod_left]
   rw[f,Nat.add_mod,c,Nat.zero_add,Nat.mod_mod]
theorem jLa:∀ {l:List Int},By l->l.length<=8->xj (vD l) l.length=l
 | [],_,_=>rfl
 | c::l,h,g=>by
   obtain⟨i,d⟩:=z4a h.tail
   obtain⟨f,j⟩:=h c (.head _)
   rw[List.length_cons] at g
   obtain⟨C,rfl⟩:=Int.eq_ofNat_of_zero_le f
   obtain⟨V,b⟩:=Int.eq_ofNat_of_zero_le i
   have e:V<256 ^ l.length:=by rw[b] at d;exact_mod_cast d
   have a:vD ((C:Int)::l)=((C*256 ^ l.length+V:Nat):Int):=by rw[WJ,b];norm_cast
   rw[a,List.length_cons,xj,jKa C V l.length l.length (zo _) (by omega), <-b,jLa h.tail (by omega),Jh _ _ (by omega)]
   have:(C*256 ^ l.length+V) / 256 ^ l.length % 256=C:=by
    rw[Nat.mul_comm,Nat.mul_add_div (Nat.pow_pos (by decide)),Nat.div_eq_of_lt e,Nat.add_zero,Nat.mod_eq_of_lt (by omega)]
   rw[this]
def tkI:List Int->Option (Int × List Int)
 | []=>none
 | m::r=>if m<=8/\m<(r.length:Int)+1/\0<=wr (vD (r.take m.toNat))/\js (wr (vD (r.take m.toNat)))=m then some (wr (vD (r.take m.toNat)),r.drop m.toNat) else none
theorem kna{n:Int}(h0:0<=n)(i:n<=9223372036854775807)(rest:List Int):tkI (qM n++rest)=some (n,rest):=by
 obtain⟨N,rfl⟩:=Int.eq_ofNat_of_zero_le h0
 have h:N<=9223372036854775807:=by omega
 have a:=Z5a h
 have j:=Wsa N (by omega)
 have g:=JQa N (by omega)
 have b:IntKind.wrap .u8 (js (N:Int))=(nd N:Int):=by rw[a,IntKind.wrap_u8];omega
 have f:=vS (N:Int) (nd N)
 unfold qM
 rw[b,a,Int.toNat_natCast,List.cons_append,tkI]
 have e:(xj (N:Int) (nd N)++rest).take (nd N)=xj (N:Int) (nd N):=by rw[jt (by omega),List.take_of_length_le (by omega)]
 have c:(xj (N:Int) (nd N)++rest).drop (nd N)=rest:=by rw[List.drop_append_of_le_length (by omega),List.drop_of_length_le (by omega),List.nil_append]
 have d:wr (vD (xj (N:Int) (nd N)))=(N:Int):=by
  rw[jJa N _ (by omega),Nat.mod_eq_of_lt g,qb (by unfold Fit;omega)]
 rw[Int.toNat_natCast,e,c,d,a,if_pos]
 rw[ze,f]
 exact⟨by omega,by omega,by omega,rfl⟩
theorem zaa{b:List Int}(c:By b){n:Int}{rest:List Int}(h:tkI b=some (n,rest)):b=qM n++rest/\(0<=n/\n<=9223372036854775807)/\By rest:=by
 cases b with
 | nil=>cases h
 | cons m r=>
   rw[tkI] at h
   split at h
   ·rename_i p
    obtain⟨v,t,k,e⟩:=p
    injection h with h
    injection h with e1 e2
    have s:=c m (.head _)
    obtain⟨M,rfl⟩:=Int.eq_ofNat_of_zero_le s.1
    rw[Int.toNat_natCast] at e1 e2 k e
    have hB:By (r.take M):=c.tail.take M
    have j:(r.take M).length=M:=by rw[zX];omega
    obtain⟨v1,o⟩:=z4a hB
    rw[j] at o
    have d:M<=8:=by omega
    have u:(256:Int) ^ M<=18446744073709551616:=by
     have l:(256:Nat) ^ M<=256 ^ 8:=Nat.pow_le_pow_right (by decide) d
     have q:(256:Nat) ^ 8=18446744073709551616:=by decide
     rw[q] at l
     have i:=Int.ofNat_le.2 l
     rw[Int.natCast_pow] at i
     exact i
    have g:wr (vD (r.take M))=vD (r.take M):=by
     have:wr (vD (r.take M))=IntKind.wrap .i64 (vD (r.take M)):=rfl
     rw[this,IntKind.wrap_i64] at k⊢
     omega
    have a:vD (r.take M)<=9223372036854775807:=by
     rw[<-g]
     exact(ky _).2
    rw[g] at e1 e
    subst e1 e2
    refine⟨?_,⟨v1,a⟩,c.tail.drop M⟩
    have f:=jLa hB (by omega)
    rw[j] at f
    unfold qM
    rw[e,Int.toNat_natCast,f,List.cons_append,qr]
    congr 1
    rw[IntKind.wrap_u8];omega
   ·exact absurd h (by simp)
end Go.Proofs.YtigdlmpjijhpaaaGreat.Ax
namespace Go.Proofs.YtigdlmpjijhpaaaGreat.Ax
open Go Go.RowKit
section
variable {P:Program} {N:Nat} {B:Bs} {T:Env} {h:List Ob} {Q:jA}
def zba(l:Nat)(J:Env->List Ob->Prop)(Q:jA):jA:=λe T h=>match e with
 | .goto l'=>l'=l/\J T h
 | e=>Q e T h
theorem JRa{l:Nat}{J:Env->List Ob->Prop}:zba l J Q .normal T h=Q .normal T h:=id rfl
theorem JSa{l:Nat}{J:Env->List Ob->Prop}:zba l J Q .ret T h=Q .ret T h:=id rfl
theorem JTa{l i:Nat}{J:Env->List Ob->Prop}:zba l J Q (.exit i) T h=Q (.exit i) T h:=id rfl
theorem JUa{l l':Nat}{J:Env->List Ob->Prop}:zba l J Q (.goto l') T h=(l'=l/\J T h):=id rfl
theorem Ji{l:Nat}(k:Q (.goto l) T h): @wM P N B ⟨(.goto l,Q)⟩ T h:=λφ b w g a r=>wp_goto ⟨T,h,k,.refl r⟩
theorem Yj{c rest:Code}(l:Nat)(J:Env->List Ob->Prop)(x:findLabel c l=some rest)(j:okC N c=true)(f:okC N rest=true)(first:wpC P N B c (zba l J Q) T h)
  (pass:∀T h,J T h->wpC P N B rest (Xr Q) T h): @wM P N B ⟨(.scope c,Q)⟩ T h:=λφ o w g a r=>by
 refine wp_scope_jumps l (λk w'=>∃b h',J b h'/\Aft N B φ w g h b h' k w') (λ_ _=>0) x ?_ ?_
 ·refine wp_mono (qz c j first φ o w g a r) λe k w' ⟨b,h',d,n⟩=>?_
  cases e<;>first
   | exact⟨b,h',d,n⟩
   | exact⟨d.1,b,h',d.2,n⟩
 ·rintro a1 t ⟨A,z,y,d⟩
  have s:=d.len
  obtain⟨u,v,q,p⟩:=d
  refine wp_mono (qz rest f (pass A z y) φ (o.mono s) t u a1 q) λe k w' ⟨b,h',m,i⟩=>?_
  have i:=i.trans v p
  cases e<;>first
   | exact⟨b,h',m,i⟩
   | exact m.elim
end
attribute [go_sem] JRa JSa JTa JUa
end Go.Proofs.YtigdlmpjijhpaaaGreat.Ax
namespace Go.Proofs.YtigdlmpjijhpaaaGreat.Ax
open Go Go.Proofs
set_option maxRecDepth 100000
theorem JVa(v c:Int)(d:0<=c/\c<256):((BitVec.ofInt 64 (IntKind.wrap .i64 (v*2 ^ 8)) ||| BitVec.ofInt 64 c).toNat:Int) % 18446744073709551616=(v*256+c) % 18446744073709551616:=by
 obtain⟨C,rfl⟩:=Int.eq_ofNat_of_zero_le d.1
 have f:C<256:=by omega
 have g:(BitVec.ofInt 64 (IntKind.wrap .i64 (v*2 ^ 8))).toNat=256*((v % 72057594037927936).toNat):=by
  rw[BitVec.toNat_ofInt,IntKind.wrap_i64]
  omega
 have e:(BitVec.ofInt 64 (C:Int)).toNat=C:=by
  rw[BitVec.toNat_ofInt]
  omega
 rw[BitVec.toNat_or,g,e]
 have a:=Nat.two_pow_add_eq_or_of_lt (i:=8) (b:=C) f ((v % 72057594037927936).toNat)
 rw[show(2:Nat) ^ 8=256 from rfl] at a
 rw[<-a]
 omega
theorem JWa(v c:Int)(a:0<=c/\c<256):IntKind.wrap .i64 ((BitVec.ofInt 64 (IntKind.wrap .i64 (v*2 ^ 8)) ||| BitVec.ofInt 64 c).toNat:Int)=IntKind.wrap .i64 (v*256+c):=by
 have:=JVa v c a
 generalize ((BitVec.ofInt 64 (IntKind.wrap .i64 (v*2 ^ 8)) ||| BitVec.ofInt 64 c).toNat:Int)=X at this⊢
 rw[IntKind.wrap_i64,IntKind.wrap_i64]
 omega
theorem JXa(v c:Int):IntKind.wrap .i64 (IntKind.wrap .i64 v*256+c)=IntKind.wrap .i64 (v*256+c):=by
 rw[IntKind.wrap_i64,IntKind.wrap_i64,IntKind.wrap_i64]
 omega
theorem koa{h:List Ob}{x:AV}{e i n:Nat}{xs:List (List AV)}(k:SlOf h x e xs)(b:i+n<=xs.length):SlOf h (.vw x e i n) e ((xs.drop i).take n):=by
 refine⟨?_,λa=>?_⟩
 ·rw[kH,k.rows,Option.bind_some,if_pos]
  refine⟨b,?_⟩
  by_cases h0:n=0
  ·exact .inl h0
  ·exact .inr (k.at (i:=0) (by omega))
 ·rw[ZP,k.at (i:=0) (by
   cases xs with
   | nil=>simp at a
   | cons _ _=>simp),Option.bind_some,if_pos rfl]
theorem Z8a(l:List Int):((l.map qN).all λr=>r.length==1 && r.all AV.one)=true:=by
 rw[zL];intro q a;obtain⟨c,_,rfl⟩:=zx.1 a;rfl
def tkV(b:List Int):AV:=match tkI b with
 | some (n,r)=> .tup [i64 n,.sl 1 (r.map qN),i64 0]
 | none=> .tup [i64 0,.v (.slice none 0 0),i64 50]
theorem ZF{b:List Int}(h:tkI b=none):tkV b= .tup [i64 0,.v (.slice none 0 0),i64 50]:=by unfold tkV;rw[h]
theorem WK{b:List Int}{n:Int}{r:List Int}(h:tkI b=some (n,r)):tkV b= .tup [i64 n,.sl 1 (r.map qN),i64 0]:=by unfold tkV;rw[h]
theorem Z9a{c:Int}(h:0<=c/\c<256):IntKind.wrap .i64 c=c:=qb (n:=c) (by unfold Fit;omega)
set_option maxHeartbeats 4000000 in
theorem Wta(h:List Ob)(x:AV)(b:List Int)(D:SlOf h x 1 (b.map qN))(hb:By b)(hl:b.length<1099511627776):
  ACalls Tryz.prog 108 [x] h λr h'=>r=tkV b/\h'=h:=by
 have Q:=D.one
 have E:=D.rows
 refine zl Tryz.f108 [.tmp 2,.tmp 3,.tmp 4] 55 rfl rfl rfl rfl rfl rfl (by decide) (⟨_,_,⟨rfl,rfl⟩,.refl⟩) λB=>?_
 simp only[go_sem,Q]
 refine Yj 0 (λT h'=>h'=h/\tkI b=none) rfl (by decide) (by decide) ?_ ?_
 ·simp only[go_sem,E,zb]
  cases b with
  | nil=>
    simp only[go_sem,List.length_nil,beq_self_eq_true]
    refine Ji ?_
    exact⟨rfl,rfl,rfl⟩
  | cons m r=>
    have hm:=hb m (.head _)
    have X:=hb.tail
    have F:=D.at (i:=0) (by simp)
    have h0:((((r.length+1:Nat)):Int)==0)=false:=by simp;omega
    rw[List.length_cons] at hl
    have A:=Z9a hm
    have j:(0:Int)<((r.length+1:Nat):Int):=by omega
    have w:((m::r).map qN)[0]? =some (qN m):=rfl
    have fail:∀T,tkI (m::r)=none-> @wM Tryz.prog 55 B ⟨(.goto 0,zba 0 (λT h'=>h'=h/\tkI (m::r)=none) (qxa Tryz.prog [.tmp 2,.tmp 3,.tmp 4] h λS h'=>S=tkV (m::r)/\h'=h))⟩ T h:=λT z=>Ji ⟨rfl,rfl,z⟩
    simp only[go_sem,h0,E,F,w,j,A,qN,List.length_cons,zb,Int.toNat_natCast,zg]
    cases H:decide (m>8)
    ·cases J:decide (m≥((r.length+1:Nat):Int))
     ·simp only[go_sem,H,J,h0,E,F,w,j,A,qN,qE,List.length_cons,zb,Int.toNat_natCast,zg]
      have ε:=of_decide_eq_false H
      have ι:=of_decide_eq_false J
      obtain⟨M,rfl⟩:=Int.eq_ofNat_of_zero_le hm.1
      have ζ:M<=8:=by omega
      have η:M<=r.length:=by omega
      have R:((1:Int)<=((r.length+1:Nat):Int))=True:=eq_true (by omega)
      have Z:SlOf h (.vw x 1 1 r.length) 1 (r.map qN):=by
       have z:=koa (i:=1) (n:=r.length) D (by rw[zb,List.length_cons];omega)
       rwa[show((((M:Int)::r).map qN).drop 1).take r.length=r.map qN from List.take_of_length_le (by rw[List.map_cons,List.drop_succ_cons,List.drop_zero,zb];omega)] at z
      have G:=Z.rows
      simp only[go_sem,R,G,Int.le_refl,true_and,or_true,and_true,if_true,Nat.add_sub_cancel,zb]
      refine zO (by decide) (λn T h'=>∃k:Nat,k<=M/\h'=h/\T 0=x/\T 5=i64 (IntKind.wrap .i64 (vD (r.take k)))/\T 6=i64 M/\T 25= .vw x 1 1 r.length/\T 26=i64 r.length/\T 27=i64 k/\n=M - k) M
       ⟨0,by omega,rfl,by simp only[go_sem],by(simp only[go_sem]<;>rfl),by simp only[go_sem],by simp only[go_sem],by simp only[go_sem],by(simp only[go_sem]<;>rfl),rfl⟩ ?_
      rintro n T h' ⟨k,hk,rfl,t0,t5,t6,t25,q,g,rfl⟩
      simp only[go_sem,q,g]
      refine ways (λe=>?_) (λe=>?_)
      ·have s:=dlt e
       have u:(r.map qN)[k]? =some (qN r[k]):=by rw[zr,zh s];rfl
       have O:(k:Int)<r.length:=by omega
       have P:=Z.at (i:=k) (by simpa using s)
       have L:=X r[k] (zw s)
       have t:vD (r.take (k+1))=vD (r.take k)*256+r[k]:=by rw[<-zD s,Z7a]
       obtain⟨c,N⟩:∃c,c=r[k]:=⟨_,rfl⟩
       rw[<-N] at u L t
       have W:=Z9a L
       simp only[go_sem,t6,t25,g,G,P,u,O,qN,zb,Int.toNat_natCast,zg]
       refine ways (λK=>?_) (λK=>?_)
       ·have o:k=M:=Int.ofNat.inj (by simpa using K)
        simp only[go_sem,q,g]
        rw[o] at t5
        have d:T 5=i64 (IntKind.wrap .i64 (vD (r.take M))):=by rw[t5]
        obtain⟨V,I⟩:∃V,V=IntKind.wrap .i64 (vD (r.take M)):=⟨_,rfl⟩
        rw[<-I] at d
        have a:tkI ((M:Int)::r)=if 0<=V/\js V=M then some (V,r.drop M) else none:=by
         rw[tkI]
         simp only[Int.toNat_natCast]
         rw[show wr (vD (r.take M))=V from I.symm]
         by_cases z:0<=V/\js V=M
         ·rw[if_pos z,if_pos ⟨by omega,by omega,z.1,z.2⟩]
         ·rw[if_neg z,if_neg λy=>z ⟨y.2.2.1,y.2.2.2⟩]
        cases p:decide (V≥0)
        ·rw[ZF (by rw[a,if_neg λy=>of_decide_eq_false p y.1])]
         simp only[go_sem,t0,d,t6,p,qE]
         refine zk ?_<;>(simp only[go_sem]<;>try rfl)
        ·simp only[go_sem,t0,d,t6,p,qE]
         refine zi (Z3a V _) ?_
         rintro _ Y ⟨rfl,rfl⟩
         cases l:js V==(M:Int)
         ·rw[ZF (by rw[a,if_neg λy=>by rw[y.2,beq_self_eq_true] at l;cases l])]
          simp only[go_sem,t0,d,t6,l,qE]
          refine zk ?_<;>(simp only[go_sem]<;>try rfl)
         ·rw[WK (by rw[a,if_pos ⟨of_decide_eq_true p,by simpa using l⟩])]
          have U:IntKind.wrap .i64 (1+(M:Int))=((1+M:Nat):Int):=by rw[show((1+M:Nat):Int)=1+(M:Int) by omega];exact qb (n:=1+(M:Int)) (by unfold Fit;omega)
          have C:((((1+M:Nat)):Int)<=((r.length+1:Nat):Int))=True:=eq_true (by omega)
          have f:=koa (i:=1+M) (n:=r.length+1 - (1+M)) D (by rw[zb,List.length_cons];omega)
          rw[show((((M:Int)::r).map qN).drop (1+M)).take (r.length+1 - (1+M))=(r.drop M).map qN from by
             rw[Nat.add_comm 1 M,List.map_cons,List.drop_succ_cons, <-List.map_drop]
             exact List.take_of_length_le (by rw[zb,List.length_drop];omega)] at f
          simp only[go_sem,t0,d,t6,l,U,E,F,C,qE,Int.le_refl,true_and,or_true,and_true,if_true,List.length_cons,zb,Int.toNat_natCast]
          refine zi (KV _ _ ((r.drop M).map qN) f (by rw[zb,List.length_drop];omega) (Z8a _) (Jg _)) ?_
          rintro _ Y ⟨rfl,rfl⟩
          simp only[go_sem,d]
          refine zk ?_<;>(simp only[go_sem]<;>try rfl)
       ·have o:k≠M:=λz=>by rw[z,beq_self_eq_true] at K;cases K
        have v:=JWa (IntKind.wrap .i64 (vD (r.take k))) c L
        rw[JXa, <-t] at v
        simp only[go_sem,t0,t5,t6,t25,q,g,W,v]
        exact⟨M - (k+1),by omega,k+1,by omega,by rw[<-v];rfl,qc (by omega) rfl,rfl⟩
      ·have γ:=xc e
       have o:k=M:=by omega
       simp only[go_sem,q,g]
       rw[o] at t5
       have d:T 5=i64 (IntKind.wrap .i64 (vD (r.take M))):=by rw[t5]
       obtain⟨V,I⟩:∃V,V=IntKind.wrap .i64 (vD (r.take M)):=⟨_,rfl⟩
       rw[<-I] at d
       have a:tkI ((M:Int)::r)=if 0<=V/\js V=M then some (V,r.drop M) else none:=by
        rw[tkI]
        simp only[Int.toNat_natCast]
        rw[show wr (vD (r.take M))=V from I.symm]
        by_cases z:0<=V/\js V=M
        ·rw[if_pos z,if_pos ⟨by omega,by omega,z.1,z.2⟩]
        ·rw[if_neg z,if_neg λy=>z ⟨y.2.2.1,y.2.2.2⟩]
       cases p:decide (V≥0)
       ·rw[ZF (by rw[a,if_neg λy=>of_decide_eq_false p y.1])]
        simp only[go_sem,t0,d,t6,p,qE]
        refine zk ?_<;>(simp only[go_sem]<;>try rfl)
       ·simp only[go_sem,t0,d,t6,p,qE]
        refine zi (Z3a V _) ?_
        rintro _ Y ⟨rfl,rfl⟩
        cases l:js V==(M:Int)
        ·rw[ZF (by rw[a,if_neg λy=>by rw[y.2,beq_self_eq_true] at l;cases l])]
         simp only[go_sem,t0,d,t6,l,qE]
         refine zk ?_<;>(simp only[go_sem]<;>try rfl)
        ·rw[WK (by rw[a,if_pos ⟨of_decide_eq_true p,by simpa using l⟩])]
         have U:IntKind.wrap .i64 (1+(M:Int))=((1+M:Nat):Int):=by rw[show((1+M:Nat):Int)=1+(M:Int) by omega];exact qb (n:=1+(M:Int)) (by unfold Fit;omega)
         have C:((((1+M:Nat)):Int)<=((r.length+1:Nat):Int))=True:=eq_true (by omega)
         have f:=koa (i:=1+M) (n:=r.length+1 - (1+M)) D (by rw[zb,List.length_cons];omega)
         rw[show((((M:Int)::r).map qN).drop (1+M)).take (r.length+1 - (1+M))=(r.drop M).map qN from by
            rw[Nat.add_comm 1 M,List.map_cons,List.drop_succ_cons, <-List.map_drop]
            exact List.take_of_length_le (by rw[zb,List.length_drop];omega)] at f
         simp only[go_sem,t0,d,t6,l,U,E,F,C,qE,Int.le_refl,true_and,or_true,and_true,if_true,List.length_cons,zb,Int.toNat_natCast]
         refine zi (KV _ _ ((r.drop M).map qN) f (by rw[zb,List.length_drop];omega) (Z8a _) (Jg _)) ?_
         rintro _ Y ⟨rfl,rfl⟩
         simp only[go_sem,d]
         refine zk ?_<;>(simp only[go_sem]<;>try rfl)
     ·simp only[go_sem,H,J,h0,E,F,w,j,A,qN,qE,List.length_cons,zb,Int.toNat_natCast,zg]
      refine Ji ⟨rfl,rfl,?_⟩
      have:=of_decide_eq_true J
      rw[tkI,if_neg (by omega)]
    ·simp only[go_sem,H,qE]
     refine Ji ⟨rfl,rfl,?_⟩
     have:=of_decide_eq_true H
     rw[tkI,if_neg (by omega)]
 ·rintro T h' ⟨rfl,hn⟩
  rw[ZF hn]
  simp only[go_sem]
  refine zk ?_<;>(simp only[go_sem]<;>try rfl)
abbrev vu(y:AV):Ob:= .box 116 [y,bl false]
def wY(H:List Ob)(p:Nat × Nat)(n:Int):List Ob:=match H[p.1]? with
 | some (.box ty cs)=>H.set p.1 (.box ty (cs.set p.2 (i64 n)))
 | _=>H
def XP(i:Nat)(H:List Ob)(p:Nat × Nat)(n:Int)(r:List Int):List Ob:=(wY H p n).set i (vu (.sl 1 (r.map qN)))
def XQ(i:Nat):List (Nat × Nat)->List Int->List Ob->Option (List Int × List Ob)
 | [],b,H=>some (b,H)
 | p::a,b,H=>match tkI b with
   | none=>none
   | some (n,r)=>XQ i a r (XP i H p n r)
structure Spot (H:List Ob) (i:Nat) (p:Nat × Nat):Prop where
 ne:p.1≠i
 at_:∃ty cs,H[p.1]? =some (.box ty cs)/\p.2<cs.length
def FrN(i:Nat)(a:List (Nat × Nat))(h h':List Ob):Prop:=∀(j:Nat) (o:Ob),j≠i->(∀p∈a,p.1≠j)->h[j]? =some o->h'[j]? =some o
abbrev J4:PanicEntry:={ v:= .iface 113 (.agg #[]),recovered:=false }
theorem kB{H:List Ob}{p:Nat × Nat}{ty:TypeId}{cs:List AV}{n:Int}(h:H[p.1]? =some (.box ty cs)):wY H p n=H.set p.1 (.box ty (cs.set p.2 (i64 n))):=by
 unfold wY
 rw[h]
theorem Spot.step{H:List Ob}{i:Nat}{p q:Nat × Nat}{n:Int}{r:List Int}(f:Spot H i q)(h:Spot H i p):Spot (XP i H p n r) i q:=by
 obtain⟨ne,ty,cs,b,c⟩:=f
 obtain⟨d,g,cs',a,j⟩:=h
 refine⟨ne,?_⟩
 unfold XP
 rw[kB a,zc (λe=>ne e.symm)]
 by_cases e:p.1=q.1
 ·rw[e] at a⊢
  rw[b] at a
  injection a with a
  injection a with e1 e2
  subst e1 e2
  exact⟨ty,_,zq b,by rw[zP];exact c⟩
 ·exact⟨ty,cs,by rw[zc e];exact b,c⟩
theorem FrN.step{H:List Ob}{i:Nat}{a:List (Nat × Nat)}{p:Nat × Nat}{h:List Ob}{n:Int}{r:List Int}(k:FrN i a h H)(l:p∈a)(g:Spot H i p):FrN i a h (XP i H p n r):=λj o c b d=>by
 obtain⟨_,ty,cs,f,_⟩:=g
 unfold XP
 rw[kB f,zc (λe=>c e.symm),zc (b p l)]
 exact k j o c b d
theorem RowsK.trans{a b c:List Ob}(k:RowsK a b)(l:RowsK b c):RowsK a c:=λid ty e xs st q=>l _ _ _ _ _ (k _ _ _ _ _ q)
theorem Vl:∀ {cs:List AV} {o:Nat} {x:AV},o<cs.length->lay cs o [x]=some (cs.set o x)
 | c::cs,0,x,_=>by cases cs<;>rfl
 | c::cs,o+1,x,h=>by
   have:=Vl (cs:=cs) (o:=o) (x:=x) (by simpa using h)
   simp only[lay,this]
   rfl
set_option maxHeartbeats 4000000 in
theorem Qca(h:List Ob)(i:Nat)(y z:AV)(b:List Int)(a:List (Nat × Nat))(hi:h[i]? =some (vu y))(N:SlOf h y 1 (b.map qN))(J:By b)(L:b.length<1099511627776)(w:SlOf h z 1 (a.map λp=>[.ptr p.1 p.2]))(M:∀p∈a,Spot h i p)(α:a.length<1048576):
  PCalls Tryz.prog 50 [.ptr i 0,z] h (λr h'=>r= .tup []/\∃g,XQ i a b h=some (g,h')/\By g) (λch h'=>ch=[J4]/\XQ i a b h=none/\FrN i a h h'):=by
 refine Kq Tryz.f50 [] 38 rfl rfl rfl rfl rfl rfl λB=>?_
 have C:=w.rows
 have R:=w.one
 refine qi (by decide) ?_
 simp only[go_sem,C,R,zb]
 refine qF (xW (Zo (λm T H=>∃(k:Nat) (y:AV) (g:List Int),k<=a.length/\H[i]? =some (vu y)/\SlOf H y 1 (g.map qN)/\By g/\g.length<1099511627776/\SlOf H z 1 (a.map λp=>[.ptr p.1 p.2])/\(∀p∈a,Spot H i p)/\FrN i a h H/\XQ i a b h=XQ i (a.drop k) g H/\
  T 0= .ptr i 0/\T 9=z/\T 10=i64 a.length/\T 11=i64 k/\m=a.length - k) a.length
  ⟨0,y,b,by omega,hi,N,J,L,w,M,λ_ _ _ _ q=>q,rfl,by simp only[go_sem],by simp only[go_sem],by simp only[go_sem],by(simp only[go_sem]<;>rfl),rfl⟩ ?_))
 rintro m T H ⟨k,y,g,hk,hi,N,J,L,w,M,G,c,t0,t9,t10,A,rfl⟩
 refine qi (by decide) ?_
 simp only[go_sem,t10,A]
 refine qF (qi (by decide) ?_)
 simp only[go_sem]
 refine ways (λe=>?_) (λe=>?_)
 ·have l:=dlt e
  have u:(a.map λp=>[AV.ptr p.1 p.2])[k]? =some [AV.ptr a[k].1 a[k].2]:=by rw[zr,zh l];rfl
  have Q:(k:Int)<a.length:=by omega
  have S:=w.at (i:=k) (by simpa using l)
  have C:=w.rows
  have j:=zw l
  have f:=M _ j
  have X:a.drop k=a[k]::a.drop (k+1):=qp l
  rw[X] at c
  obtain⟨p,V⟩:∃p,p=a[k]:=⟨_,rfl⟩
  rw[<-V] at u j f c
  have U:=N.one
  simp only[go_sem]
  refine qF (jr (xW ?_))
  refine qi (by decide) ?_
  simp only[go_sem,t9,A,S,C,u,Q,zb,Int.toNat_natCast,zg]
  refine qF (qi (by decide) ?_)
  simp only[go_sem,t0,hi,U]
  refine zi (Wta _ y g N J L) ?_
  rintro _ O ⟨rfl,rfl⟩
  cases d:tkI g with
  | none=>
    rw[ZF d]
    simp only[go_sem]
    refine qF (jr (qi (by decide) ?_))
    simp only[go_sem]
    refine qF (vU (t:=true) (by simp only[go_sem]<;>rfl) (λ_=>?_) (λe=>by cases e))
    refine Y7 XN XO (by decide) (by decide) λT'=>?_
    refine⟨rfl,?_,G⟩
    rw[c,XQ,d]
  | some q=>
    obtain⟨n,r⟩:=q
    rw[WK d]
    simp only[go_sem]
    refine qF (jr (qi (by decide) ?_))
    simp only[go_sem]
    refine qF (vU (t:=false) (by simp only[go_sem]<;>rfl) (λe=>by cases e) (λ_=>Qs ?_))
    refine qF (qz _ (by decide) ?_)
    obtain⟨K,ty,cs,s,v⟩:=f
    have I:=Vl (cs:=cs) (o:=p.2) (x:=i64 n) v
    have F:∀o,(O.set p.1 o)[i]? =some (vu y):=λo=>by rw[zc K];exact hi
    have D:XP i O p n r=(O.set p.1 (.box ty (cs.set p.2 (i64 n)))).set i (vu (.sl 1 (r.map qN))):=by unfold XP;rw[kB s]
    obtain⟨e1,e2,e3⟩:=zaa J d
    have P:r.length<1099511627776:=by
     rw[e1,ze] at L
     omega
    have E:lay [y,bl false] 0 [AV.sl 1 (r.map qN)]=some [AV.sl 1 (r.map qN),bl false]:=rfl
    simp only[go_sem,t0,s,I,hi,F,E]
    refine qF (qz _ (by decide) ?_)
    simp only[go_sem,t0,t9,t10,A]
    rw[<-D]
    have f:Spot O i p:=⟨K,ty,cs,s,v⟩
    refine⟨a.length - (k+1),by omega,k+1,.sl 1 (r.map qN),r,by omega,?_,⟨rfl,λ_=>rfl⟩,e3,P,?_,λq Z=>(M q Z).step f,G.step j f,?_,qc (by omega) rfl,rfl⟩
    ·rw[D]
     exact zq (F _)
    ·rw[D]
     exact w.keep ((RowsK.setB s).trans (RowsK.setB (F _)))
    ·rw[c,XQ,d]
 ·have Y:=xc e
  have W:k=a.length:=by omega
  subst W
  rw[List.drop_length] at c
  simp only[go_sem]
  exact⟨.tup [],by simp only[go_sem],.inl ⟨rfl,g,c,J⟩⟩
def vr(b:List Int):Option (Int × List Int):=match tkI b with
 | some (n,r)=>if n<=(r.length:Int) then some (n,r) else none
 | none=>none
def FrE(i:Nat)(h h':List Ob):Prop:=∀(j:Nat) (o:Ob),j≠i->h[j]? =some o->h'[j]? =some o
set_option maxHeartbeats 4000000 in
theorem XOa(h:List Ob)(i:Nat)(y:AV)(b:List Int)(hi:h[i]? =some (vu y))(H:SlOf h y 1 (b.map qN))(G:By b)(F:b.length<1099511627776):
  PCalls Tryz.prog 48 [.ptr i 0] h (λr h'=>∃n rest,vr b=some (n,rest)/\r=i64 n/\h'=h.set i (vu (.sl 1 (rest.map qN)))) (λE h'=>E=[J4]/\vr b=none/\FrE i h h'):=by
 refine Kq Tryz.f48 [.cell 2 3] 17 rfl rfl rfl rfl rfl rfl λB=>?_
 have A:=(zd.1 hi).1
 refine qi (by decide) ?_
 simp only[go_sem]
 refine qF (jr (jr ?_))
 refine Zs [_,_] _ rfl rfl (by decide) ?_
 simp only[go_sem]
 have l:∀M:List Ob,(h++M)[i]? =some (vu y):=λM=>zf hi
 refine vX (Qca _ i y _ b [(h.length,0)] (l _) (H.app _) G F (vM (ty:=109) (st:=0) (by rw[zN (k:=1) rfl];rfl)) (λp s=>?_) (by show 1<_;omega)) ?_ ?_
 ·rw[zJ] at s
  subst s
  exact⟨by show h.length≠i;omega,3,[i64 0],by rw[zM rfl];rfl,Nat.zero_lt_one⟩
 ·rintro r h' ⟨rfl,J,a,I⟩
  cases c:tkI b with
  | none=>rw[XQ,c] at a;cases a
  | some q=>
    obtain⟨n,rest⟩:=q
    rw[XQ,c] at a
    simp only[XQ,Option.some.injEq,Prod.mk.injEq] at a
    obtain⟨rfl,a⟩:=a
    subst a
    unfold XP
    rw[kB (ty:=3) (cs:=[i64 0]) (by rw[zM rfl];rfl)]
    simp only[go_sem]
    rw[qV _ _ A]
    obtain⟨g,d⟩:∃g,g=h.set i (vu (.sl 1 (rest.map qN))):=⟨_,rfl⟩
    have m:g.length=h.length:=by rw[d,zP]
    have C:g[i]? =some (vu (.sl 1 (rest.map qN))):=by rw[d];exact zq hi
    rw[<-d, <-m]
    have w:∀M,(g++M)[i]? =some (vu (.sl 1 (rest.map qN))):=λM=>zf C
    refine qF (qi (by decide) ?_)
    simp only[go_sem]
    refine zV rfl [] 0 [(1,0,[]),(2,0,[]),(3,0,[]),(4,0,[]),(0,0,[]),(5,0,[]),(6,0,[]),(7,0,[])] rfl (by decide) (by decide) ?_
    simp only[go_sem,w,zb]
    cases v:decide (n>(rest.length:Int))
    ·have f:vr b=some (n,rest):=by
      unfold vr
      rw[c]
      simp only
      rw[if_pos (by have:=of_decide_eq_false v;omega)]
     refine qF (vU (t:=false) (by simp only[go_sem,v]<;>rfl) (λe=>by cases e) (λ_=>Qs ?_))
     refine qF (qz _ (by decide) ?_)
     simp only[go_sem]
     refine⟨i64 n,by(simp only[go_sem]<;>rfl),.inr ⟨g,_,rfl,m,rfl,?_,n,rest,f,rfl,d⟩⟩
     rw[d]
     exact KeepLt.refl.set rfl (by simp only[Vn,qJ,AV.lt,Jg,Bool.and_self])
    ·have f:vr b=none:=by
      unfold vr
      rw[c]
      simp only
      rw[if_neg (by have:=of_decide_eq_true v;omega)]
     refine qF (vU (t:=true) (by simp only[go_sem,v]<;>rfl) (λ_=>?_) (λe=>by cases e))
     refine Y7 XN XO (by decide) (by decide) λK=>?_
     refine⟨rfl,f,λj o z u=>?_⟩
     refine zf ?_
     rw[d,zc (λe=>z e.symm)]
     exact u
 ·rintro E h' ⟨rfl,D,x⟩
  refine⟨rfl,?_,?_⟩
  ·cases c:tkI b with
   | none=>unfold vr;rw[c]
   | some q=>rw[XQ,c] at D;cases D
  ·intro j o z u
   refine x j o z (λp s=>?_) (zf u)
   rw[zJ] at s
   subst s
   have:=(zd.1 u).1
   show h.length≠j
   omega
def Sb(z:AV)(b:List Int):Prop:=z= .sl 1 (b.map qN)∨z= .v (.slice none 0 0)/\b=[]
theorem Sb.sl{h:List Ob}{z:AV}{b:List Int}(k:Sb z b):SlOf h z 1 (b.map qN):=by
 rcases k with rfl|⟨rfl,rfl⟩
 ·exact⟨rfl,λ_=>rfl⟩
 ·exact⟨rfl,λh=>absurd rfl h⟩
theorem Sb.lt{n:Nat}{z:AV}{b:List Int}(k:Sb z b):z.lt n=true:=by
 rcases k with rfl|⟨rfl,rfl⟩
 ·exact Jg _
 ·rfl
def yn(q:List Int × Bool)(n:Int):List Int × Bool:=(if q.2 && (wh q.1 [n]).2==0 then(wh q.1 [n]).1 else q.1,q.2 && (wh q.1 [n]).2==0)
def xC(q:List Int × Bool)(ns:List Int):List Int × Bool:=ns.foldl yn q
theorem jMa(q:List Int × Bool)(n:Int):(yn q n).1.length<=q.1.length+9:=by
 have:=Z9 n
 have a:(wh q.1 [n]).1.length<=q.1.length+9:=by
  unfold wh
  split
  ·simp
  ·simp only[ze,List.flatMap_cons,List.flatMap_nil,zU];omega
 unfold yn
 simp only
 split
 ·exact a
 ·omega
theorem QT:∀(ns:List Int) (q:List Int × Bool),(xC q ns).1.length<=q.1.length+9*ns.length
 | [],q=>by simp[xC]
 | n::ns,q=>by
   have b:=jMa q n
   have a:=QT ns (yn q n)
   rw[xC,List.foldl_cons,List.length_cons]
   unfold xC at a
   omega
theorem wOa{q:List Int × Bool}{ns:List Int}{i:Nat}(h:i<ns.length):xC q (ns.take (i+1))=yn (xC q (ns.take i)) ns[i]:=by
 unfold xC
 rw[show ns.take (i+1)=ns.take i++[ns[i]] from(zD h).symm,jb];rfl
def Wua(h:List Ob)(i:Nat)(p:AV)(n:Int):Prop:=∃id off ty cs,p= .ptr id off/\id≠i/\h[id]? =some (.box ty cs)/\off<cs.length/\nth cs off=i64 n
theorem Yza(h:List Ob)(i:Nat)(z:AV)(b:List Int)(ok:Bool)(x:AV)(d:List (AV × Int))(hi:h[i]? =some (.box 107 [z,bl ok]))(hz:Sb z b)(hx:SlOf h x 1 (d.map λp=>[p.1]))(hp:∀p∈d,Wua h i p.1 p.2)(hb:b.length<536870912)(hn:d.length<1048576):
  ACalls Tryz.prog 45 [.ptr i 0,x] h λr h'=>r= .tup []/\∃u,Sb u (xC (b,ok) (d.map (·.2))).1/\h'=h.set i (.box 107 [u,bl (xC (b,ok) (d.map (·.2))).2]):=by
 have hex:∃r h',(r=AV.tup []/\∃u,Sb u (xC (b,ok) (d.map (·.2))).1/\h'=h.set i (.box 107 [u,bl (xC (b,ok) (d.map (·.2))).2]))/\ResK h h':=
  ⟨_,_,⟨rfl,_,.inl rfl,rfl⟩,qH hi rfl⟩
 refine zl Tryz.f45 [] 46 rfl rfl rfl rfl rfl rfl (by decide) (hex) λB=>?_
 simp only[go_sem,hx.rows,zb]
 obtain⟨ns,A⟩:∃ns,ns=d.map (·.2):=⟨_,rfl⟩
 have U:ns.length=d.length:=by rw[A];simp
 have W:=λj=>QT (ns.take j) (b,ok)
 rw[<-A]
 have I:=(zd.1 hi).1
 refine zO (by decide) (λm T h'=>∃(j:Nat) (u:AV) (L:List Ob),j<=d.length/\Sb u (xC (b,ok) (ns.take j)).1/\h'=h.set i (.box 107 [u,bl (xC (b,ok) (ns.take j)).2])++L/\NoRes L/\T 0= .ptr i 0/\T 8=x/\T 9=i64 d.length/\T 10=i64 j/\m=d.length - j) d.length
  ⟨0,z,[],by omega,hz,by rw[zU];exact(qX hi).symm,xr,by simp only[go_sem],by simp only[go_sem],by(simp only[go_sem]<;>rfl),by(simp only[go_sem]<;>rfl),rfl⟩ ?_
 rintro m T h' ⟨j,v,L,hj,f,rfl,V,t0,t8,t9,t10,rfl⟩
 simp only[go_sem,t9,t10]
 refine ways (λe=>?_) (λe=>?_)
 ·have w:=dlt e
  have s:(d.map λp=>[p.1])[j]? =some [d[j].1]:=by rw[zr,zh w];rfl
  have P:(j:Int)<d.length:=by omega
  have a:=wOa (q:=(b,ok)) (ns:=ns) (i:=j) (by omega)
  have α:ns[j]'(by omega)=d[j].2:=by simp[A]
  obtain⟨id,off,ty,cs,p1,p2,p3,p4,Y⟩:=hp d[j] (zw w)
  have E:=W j
  rw[α] at a
  obtain⟨n,N⟩:∃n,n=d[j].2:=⟨_,rfl⟩
  obtain⟨pt,X⟩:∃pt,pt=d[j].1:=⟨_,rfl⟩
  rw[<-N] at a Y
  rw[<-X] at s p1
  subst p1
  obtain⟨Q,hQ⟩:∃Q,Q=xC (b,ok) (ns.take j):=⟨_,rfl⟩
  rw[<-hQ] at a f E⊢
  have ε:Q.1.length<1073741824:=by
   simp only[zX] at E
   omega
  obtain⟨H,C⟩:∃H,H=h.set i (.box 107 [v,bl Q.2])++L:=⟨_,rfl⟩
  have F:H[i]? =some (.box 107 [v,bl Q.2]):=by rw[C];exact zf (zm I)
  have S:H[id]? =some (.box ty cs):=by rw[C];exact zf (by rw[zc (Ne.symm p2)];exact p3)
  have D:SlOf H x 1 (d.map λp=>[p.1]):=by rw[C];exact(hx.keep (.setB hi)).app _
  have Z:∀o,H.set i o=h.set i o++L:=λo=>by rw[C,qV _ _ (by rw[zP];exact I),qh]
  rw[<-C]
  clear C
  have β:=D.rows
  have γ:=D.at (i:=j) (by rw[zb];exact w)
  have c:∀M,(H++M)[i]? =some (.box 107 [v,bl Q.2]):=λM=>zf F
  have t:∀M,(H++M)[id]? =some (.box ty cs):=λM=>zf S
  have k:=(f.sl (h:=h)).one
  have g:=(f.sl (h:=h)).cells
  simp only[go_sem,t0,t8,t10,β,γ,s,P,zb,Int.toNat_natCast,zg]
  refine zV rfl [.res] 1 [(0,0,[]),(1,0,[]),(2,0,[]),(4,0,[]),(5,0,[]),(3,0,[]),(6,0,[]),(7,0,[]),(8,0,[]),(9,0,[]),(10,0,[]),(11,0,[]),(12,0,[]),(13,0,[])] rfl (by decide) (by decide) ?_
  simp only[go_sem,t0,c,t,p4,Y,k,g]
  refine zi (Wra _ v _ Q.1 [n] f.sl ⟨by rw[qS,zM rfl];rfl,λ_=>by rw[j5,zM rfl];rfl⟩ (by omega) (by show 1<1048576;decide)) ?_
  rintro _ h3 ⟨rfl,e3⟩
  rw[e3]
  obtain⟨R,hR⟩:∃R,R=wh Q.1 [n]:=⟨_,rfl⟩
  rw[<-hR]
  simp only[go_sem,t0,c,t,p4,Y,k,g]
  have J:yn Q n=(if Q.2 && R.2==0 then R.1 else Q.1,Q.2 && R.2==0):=by rw[hR];rfl
  rw[J] at a
  have y:∀o M,((H++M).set i o)[i]? =some o:=λo M=>zq (c M)
  have l:∀o M,(H++M).set i o=h.set i o++(L++M):=λo M=>by
   rw[qV _ _ (by exact(zd.1 F).1),Z,zn]
  cases G:Q.2
  ·rw[G] at a c
   simp only[Bool.false_and,Bool.false_eq_true,if_false] at a
   simp only[go_sem,G,qE,t0,t10,c,y,k,g]
   exact⟨d.length - (j+1),by omega,j+1,v,L++[.row 3 1 [[i64 n]] 0],by omega,by rw[a];exact f,by rw[a];exact l _ _,V.app (zF rfl),t8,t9,qc (by omega) rfl,rfl⟩
  ·rw[G] at a c
   simp only[Bool.true_and] at a
   cases K:R.2==0
   ·rw[K] at a
    simp only[Bool.false_eq_true,if_false] at a
    simp only[go_sem,G,K,qE,t0,t10,c,y,k,g]
    exact⟨d.length - (j+1),by omega,j+1,v,L++[.row 3 1 [[i64 n]] 0],by omega,by rw[a];exact f,by rw[a];exact l _ _,V.app (zF rfl),t8,t9,qc (by omega) rfl,rfl⟩
   ·rw[K] at a
    simp only[if_true] at a
    simp only[go_sem,G,K,qE,t0,t10,c,y,k,g,qh]
    exact⟨d.length - (j+1),by omega,j+1,.sl 1 (R.1.map qN),L++[.row 3 1 [[i64 n]] 0],by omega,by rw[a];exact .inl rfl,by rw[a];exact l _ _,V.app (zF rfl),t8,t9,qc (by omega) rfl,rfl⟩
 ·have ι:=xc e
  have O:j=d.length:=by omega
  subst O
  rw[<-U,zY] at f⊢
  simp only[go_sem]
  exact⟨.tup [],rfl,.inr ⟨_,L,rfl,by rw[zP],rfl,KeepLt.set .refl rfl (by simp only[Vn,qJ,f.lt,AV.lt,Bool.and_self]),rfl,v,f,rfl⟩⟩
structure Cm where
 kind:Int
 fx:Fx
 worker:Int
 week:Int
 last:Int
section
variable {h:List Ob} {d:Nat} {s:Setup} {a:SA} {x c:AV} {err:Int} {rows segs bytes:AV} {q:Cm}
end
def frA(s:Setup):SA:=⟨.sl 3 (s.ways.map X5),.sl 4 (s.elements.map X6),.sl 2 (s.classes.map jG),.sl 2 (s.gears.map jG),.sl 1 (s.rates.map qI),.sl 2 (s.tiers.map jG)⟩
structure SFew (s:Setup):Prop where
 w:s.ways.length<1099511627776
 e:s.elements.length<1099511627776
 c:s.classes.length<1099511627776
 g:s.gears.length<1099511627776
 r:s.rates.length<1099511627776
 t:s.tiers.length<1099511627776
abbrev XPa(s:Setup)(a:SA)(x c:AV):List AV:=[i64 s.places,a.w,i64 s.pace.1,i64 s.pace.2,a.e,a.c,a.g,i64 s.allow,i64 s.unit,i64 s.cap,i64 s.paidBreak,i64 s.autoAfter,i64 s.autoBreak,
 i64 s.dayReg,i64 s.dayOver,i64 s.weekReg,i64 s.nightFrom,i64 s.nightTo,a.r,i64 s.diff,i64 s.least,i64 s.fault,a.t,x,c]
def KX:AV:= .v (.slice none 0 0)
def zS:Setup:=⟨0,[],(0,0),[],[],[],0,0,0,0,0,0,0,0,0,0,0,[],0,0,0,[]⟩
def zA:SA:=⟨KX,KX,KX,KX,KX,KX⟩
theorem ZG(q:List Int × Bool)(a b:List Int):xC q (a++b)=xC (xC q a) b:=by unfold xC;rw[jb]
structure PnH (h:List Ob) (i:Nat) (Q:List Int × Bool) (H:List Ob):Prop where
 eq:∃z L,Sb z Q.1/\H=h.set i (.box 107 [z,bl Q.2])++L/\NoRes L
theorem PnH.app{h:List Ob}{i:Nat}{Q:List Int × Bool}{H:List Ob}(k:PnH h i Q H){M:List Ob}(a:NoRes M):PnH h i Q (H++M):=by
 obtain⟨z,L,k1,k2,k3⟩:=k.eq
 exact⟨z,L++M,k1,by rw[k2,zn],k3.app a⟩
theorem PnH.get{h:List Ob}{i:Nat}{Q:List Int × Bool}{H:List Ob}(k:PnH h i Q H){m:Nat}{o:Ob}(a:m≠i)(b:h[m]? =some o):H[m]? =some o:=by
 obtain⟨z,L,k1,k2,k3⟩:=k.eq
 rw[k2]
 exact zf (by rw[zc (Ne.symm a)];exact b)
theorem WL{h H:List Ob}{i:Nat}{Q:List Int × Bool}(k:PnH h i Q H)(b:i<h.length)(x:AV)(a:List (AV × Int))(g:SlOf H x 1 (a.map λp=>[p.1]))(l:∀p∈a,Wua H i p.1 p.2)(e:Q.1.length<536870912)(f:a.length<1048576):
  ACalls Tryz.prog 45 [.ptr i 0,x] H λr h'=>r= .tup []/\PnH h i (xC Q (a.map (·.2))) h'/\∀m o,m≠i->H[m]? =some o->h'[m]? =some o:=by
 obtain⟨z,L,k1,k2,k3⟩:=k.eq
 have c:H[i]? =some (.box 107 [z,bl Q.2]):=by rw[k2];exact zf (zm b)
 refine(Yza H i z Q.1 Q.2 x a c k1 g l e f).mono ?_
 rintro r h' ⟨rfl,j,d,rfl⟩
 refine⟨rfl,⟨j,L,d,?_,k3⟩,λm o n q=>by rw[zc (Ne.symm n)];exact q⟩
 rw[k2,qV _ _ (by rw[zP];exact b),qh]
def Qa(R:RowV):List Int:=[R.tot 0,R.tot 1,R.tot 2,R.tot 3,R.tot 4,R.tot 5,R.tot 6]
def Zg(R:RowV):List Int:=[R.pays 0,R.pays 1,R.pays 2,R.pays 3,R.pays 4,R.pays 5,R.pays 6]
def jN(R:RowV):List Int:=[R.worker,R.week,R.err]++Qa R++Zg R++[R.earned.1,R.earned.2,R.perf.1,R.perf.2,R.elig,wr (R.tier+1),R.extra,R.supp,R.total]
theorem KPa(R:RowV)(a:AV){k:Nat}(b:k<7):nth (jJ R a) (3+k)=i64 (R.tot k)/\(Qa R)[k]? =some (R.tot k):=by
 have:k=0∨k=1∨k=2∨k=3∨k=4∨k=5∨k=6:=by omega
 rcases this with rfl|rfl|rfl|rfl|rfl|rfl|rfl<;>exact⟨rfl,rfl⟩
theorem JYa(R:RowV)(a:AV){k:Nat}(b:k<7):nth (jJ R a) (10+k)=i64 (R.pays k)/\(Zg R)[k]? =some (R.pays k):=by
 have:k=0∨k=1∨k=2∨k=3∨k=4∨k=5∨k=6:=by omega
 rcases this with rfl|rfl|rfl|rfl|rfl|rfl|rfl<;>exact⟨rfl,rfl⟩
theorem zca{l:List Int}{k:Nat}{n:Int}(h:l[k]? =some n):l.take (k+1)=l.take k++[n]:=by
 obtain⟨b,a⟩:=zd.1 h
 rw[<-a];exact(zD b).symm
theorem JZa{n:Int}(h:Fit n):wr (wr (n+1) - 1)=n:=by
 by_cases e:n=9223372036854775807
 ·subst e
  decide
 ·have a:Fit (n+1):=by unfold Fit at *; omega
  rw[qb a]
  exact(qb (n:=n+1 - 1) (by unfold Fit at *; omega)).trans (by omega)
theorem KQa(h:List Ob)(i j:Nat)(z:AV)(Q:List Int × Bool)(R:RowV)(G:AV)(a:j≠i)(hi:h[i]? =some (.box 107 [z,bl Q.2]))(U:Sb z Q.1)(y:h[j]? =some (.box 45 (jJ R G)))(X:Fit R.tier)(P:AV.one G=true)(hQ:Q.1.length<268435456):
  ACalls Tryz.prog 49 [.ptr j 0,.fn (.func 45) [.ptr i 0] []] h λr h'=>r= .tup []/\PnH h i (xC Q (jN R)) h':=by
 have q:=(zd.1 hi).1
 have hex:∃r h',(r=AV.tup []/\PnH h i (xC Q (jN R)) h')/\ResK h h':=
  ⟨_,h.set i (.box 107 [.sl 1 ((xC Q (jN R)).1.map qN),bl (xC Q (jN R)).2]),⟨rfl,_,[],.inl rfl,by simp,xr⟩,qH hi rfl⟩
 have base:PnH h i Q h:=⟨z,[],U,by rw[zU];exact(qX hi).symm,xr⟩
 have v:=λns=>QT ns Q
 refine zl Tryz.f49 [] 90 rfl rfl rfl rfl rfl rfl (by decide) (hex) λB=>?_
 simp only[go_sem,y]
 refine zV rfl [.res] 1 [(0,0,[]),(1,0,[]),(2,0,[]),(3,0,[]),(4,0,[]),(5,0,[]),(6,0,[]),(7,0,[]),(8,0,[])] rfl (by decide) (by decide) ?_
 simp only[go_sem]
 have k0:=base.app (M:=[.box 3 [i64 R.err],.row 109 1 [[.ptr j 0],[.ptr j 1],[.ptr h.length 0]] 0]) (zp rfl (zF rfl))
 have o:=k0.get a y
 have w:(h++[Ob.box 3 [i64 R.err],.row 109 1 [[.ptr j 0],[.ptr j 1],[.ptr h.length 0]] 0])[h.length]? =some (.box 3 [i64 R.err]):=by rw[zM rfl];rfl
 refine zi (WL k0 q (.tl (h.length+1) 0) [(.ptr j 0,R.worker),(.ptr j 1,R.week),(.ptr h.length 0,R.err)] ⟨by rw[qS,zN (k:=1) rfl];rfl,λ_=>by rw[j5,zN (k:=1) rfl];rfl⟩ (λp d=>by
  rcases zH.1 d with rfl|d
  ·exact⟨j,0,_,_,rfl,a,o,by show 0<27;decide,rfl⟩
  rcases zH.1 d with rfl|d
  ·exact⟨j,1,_,_,rfl,a,o,by show 1<27;decide,rfl⟩
  rw[zJ] at d
  subst d
  exact⟨h.length,0,_,_,rfl,by omega,w,by show 0<1;decide,rfl⟩) (by omega) (by show 3<1048576;decide)) ?_
 rintro _ H1 ⟨rfl,k1,K⟩
 have b:=K j _ a o
 have D:=K h.length _ (by omega) w
 simp only[go_sem,b,D]
 rw[qX b]
 refine zO (by decide) (λm T H=>∃n:Nat,n<=7/\PnH h i (xC Q ([R.worker,R.week,R.err]++(Qa R).take n)) H/\T 0= .ptr j 0/\T 1= .fn (.func 45) [.ptr i 0] []/\T 25=i64 n/\m=7 - n) 7
  ⟨0,by omega,k1,by simp only[go_sem],by simp only[go_sem],by(simp only[go_sem]<;>rfl),rfl⟩ ?_
 clear k0 k1 o b w D K
 rintro m T H ⟨n,W,l,t0,t1,t25,rfl⟩
 simp only[go_sem,t25]
 refine ways (λe=>?_) (λe=>?_)
 ·have x:(n:Int)<7:=of_decide_eq_true e
  have c:n<7:=by omega
  have g:=l.get a y
  obtain⟨J,L⟩:=KPa R G c
  simp only[go_sem,t0,t1,t25,x,c,Nat.mul_one,Int.toNat_natCast,zg]
  have f:=l.app (M:=[.row 109 1 [[.ptr j (3+n)]] 0]) (zF rfl)
  have C:=v ([R.worker,R.week,R.err]++(Qa R).take n)
  have s:([R.worker,R.week,R.err]++(Qa R).take n).length<=10:=by simp[Qa];omega
  refine zi (WL f q (.tl H.length 0) [(.ptr j (3+n),R.tot n)] ⟨by rw[qS,zM rfl];rfl,λ_=>by rw[j5,zM rfl];rfl⟩ (λp d=>by
   rw[zJ] at d
   subst d
   exact⟨j,3+n,_,_,rfl,a,zf g,by show 3+n<27;omega,J⟩) (by omega) (by show 1<1048576;decide)) ?_
  rintro _ O ⟨rfl,k2,F⟩
  rw[<-ZG] at k2
  simp only[go_sem,t25]
  exact⟨7 - (n+1),by omega,n+1,by omega,by rw[zca L];simpa using k2,t0,t1,qc (by omega) rfl,rfl⟩
 ·have I:¬ (n:Int)<7:=of_decide_eq_false e
  have u:n=7:=by omega
  subst u
  simp only[go_sem]
  refine zO (by decide) (λm T H=>∃n:Nat,n<=7/\PnH h i (xC Q ([R.worker,R.week,R.err]++Qa R++(Zg R).take n)) H/\T 0= .ptr j 0/\T 1= .fn (.func 45) [.ptr i 0] []/\T 37=i64 n/\m=7 - n) 7
   ⟨0,by omega,by simpa [Qa] using l,by simp only[go_sem,t0],by simp only[go_sem,t1],by(simp only[go_sem]<;>rfl),rfl⟩ ?_
  clear l t0 t1 t25
  rintro m T H ⟨n,W,l,t0,t1,t,rfl⟩
  simp only[go_sem,t]
  refine ways (λe=>?_) (λe=>?_)
  ·have x:(n:Int)<7:=of_decide_eq_true e
   have c:n<7:=by omega
   have g:=l.get a y
   obtain⟨J,L⟩:=JYa R G c
   simp only[go_sem,t0,t1,t,x,c,Nat.mul_one,Int.toNat_natCast,zg]
   have f:=l.app (M:=[.row 109 1 [[.ptr j (10+n)]] 0]) (zF rfl)
   have C:=v ([R.worker,R.week,R.err]++Qa R++(Zg R).take n)
   have s:([R.worker,R.week,R.err]++Qa R++(Zg R).take n).length<=17:=by simp[Qa,Zg];omega
   refine zi (WL f q (.tl H.length 0) [(.ptr j (10+n),R.pays n)] ⟨by rw[qS,zM rfl];rfl,λ_=>by rw[j5,zM rfl];rfl⟩ (λp d=>by
    rw[zJ] at d
    subst d
    exact⟨j,10+n,_,_,rfl,a,zf g,by show 10+n<27;omega,J⟩) (by omega) (by show 1<1048576;decide)) ?_
   rintro _ O ⟨rfl,k2,F⟩
   rw[<-ZG] at k2
   simp only[go_sem,t]
   exact⟨7 - (n+1),by omega,n+1,by omega,by rw[zca L];simpa using k2,t0,t1,qc (by omega) rfl,rfl⟩
  ·have I:¬ (n:Int)<7:=of_decide_eq_false e
   have u:n=7:=by omega
   subst u
   have g:=l.get a y
   simp only[go_sem,t0,g]
   refine zV rfl [.res] 1 [(0,0,[]),(1,0,[]),(2,0,[]),(3,0,[]),(4,0,[]),(5,0,[]),(6,0,[]),(7,0,[]),(8,0,[]),(9,0,[]),(10,0,[]),(11,0,[]),(12,0,[]),(13,0,[]),(14,0,[]),(15,0,[]),(16,0,[]),(17,0,[]),(18,0,[]),(19,0,[]),(20,0,[]),(21,0,[]),(22,0,[]),(23,0,[]),(24,0,[]),(25,0,[]),(26,0,[]),(27,0,[]),(28,0,[]),(29,0,[]),(30,0,[])] rfl (by decide) (by decide) ?_
   simp only[go_sem,t0,t1]
   have f:=l.app (M:=[.box 3 [i64 (wr (R.tier+1))],.row 109 1 [[.ptr j 17],[.ptr j 18],[.ptr j 19],[.ptr j 20],[.ptr j 21],[.ptr H.length 0],[.ptr j 23],[.ptr j 24],[.ptr j 25]] 0]) (zp rfl (zF rfl))
   have V:i<H.length:=by
    obtain⟨z0,Z,_,S,_⟩:=l.eq
    rw[S,ze,zP];omega
   have b:=f.get a y
   have E:(H++[Ob.box 3 [i64 (wr (R.tier+1))],.row 109 1 [[.ptr j 17],[.ptr j 18],[.ptr j 19],[.ptr j 20],[.ptr j 21],[.ptr H.length 0],[.ptr j 23],[.ptr j 24],[.ptr j 25]] 0])[H.length]? =some (.box 3 [i64 (wr (R.tier+1))]):=by rw[zM rfl];rfl
   have C:=v ([R.worker,R.week,R.err]++Qa R++(Zg R).take 7)
   have s:([R.worker,R.week,R.err]++Qa R++(Zg R).take 7).length<=17:=by simp[Qa,Zg]
   refine zi (WL f q (.tl (H.length+1) 0) [(.ptr j 17,R.earned.1),(.ptr j 18,R.earned.2),(.ptr j 19,R.perf.1),(.ptr j 20,R.perf.2),(.ptr j 21,R.elig),(.ptr H.length 0,wr (R.tier+1)),(.ptr j 23,R.extra),(.ptr j 24,R.supp),(.ptr j 25,R.total)]
    ⟨by rw[qS,zN (k:=1) rfl];rfl,λ_=>by rw[j5,zN (k:=1) rfl];rfl⟩ (λp d=>by
    simp only[zH,List.not_mem_nil,or_false] at d
    rcases d with rfl|rfl|rfl|rfl|rfl|rfl|rfl|rfl|rfl
    ·exact⟨j,17,_,_,rfl,a,b,by show 17<27;decide,rfl⟩
    ·exact⟨j,18,_,_,rfl,a,b,by show 18<27;decide,rfl⟩
    ·exact⟨j,19,_,_,rfl,a,b,by show 19<27;decide,rfl⟩
    ·exact⟨j,20,_,_,rfl,a,b,by show 20<27;decide,rfl⟩
    ·exact⟨j,21,_,_,rfl,a,b,by show 21<27;decide,rfl⟩
    ·exact⟨H.length,0,_,_,rfl,by omega,E,by show 0<1;decide,rfl⟩
    ·exact⟨j,23,_,_,rfl,a,b,by show 23<27;decide,rfl⟩
    ·exact⟨j,24,_,_,rfl,a,b,by show 24<27;decide,rfl⟩
    ·exact⟨j,25,_,_,rfl,a,b,by show 25<27;decide,rfl⟩) (by omega) (by show 9<1048576;decide)) ?_
   rintro _ O ⟨rfl,k2,F⟩
   have A:=F j _ a b
   have N:=F H.length _ (by omega) E
   have Y:IntKind.wrap .i64 (wr (R.tier+1) - 1)=R.tier:=JZa X
   rw[<-ZG] at k2
   simp only[go_sem,t0,A,N,Y]
   rw[qX A]
   exact⟨_,rfl,.inl ⟨rfl,by simpa [jN,Zg,Qa] using k2⟩⟩
def qW:Nat->List Int->Option (List Int × List Int)
 | 0,b=>some ([],b)
 | k+1,b=>match tkI b with
   | none=>none
   | some (n,r)=>(qW k r).map λq=>(n::q.1,q.2)
def wZ(H:List Ob):List (Nat × Nat)->List Int->List Ob
 | p::a,n::ns=>wZ (wY H p n) a ns
 | _,_=>H
theorem xm:∀ {k:Nat} {b ns r:List Int},qW k b=some (ns,r)->ns.length=k
 | 0,b,ns,r,h=>by injection h with h;injection h with c a;rw[<-c];rfl
 | k+1,b,ns,r,h=>by
   rw[qW] at h
   split at h
   ·cases h
   ·obtain⟨q,c,a⟩:=Option.map_eq_some_iff.1 h
    injection a with a h3
    rw[<-a,List.length_cons,xm (r:=q.2) c]
theorem yT:∀ {k:Nat} {b ns r:List Int},By b->qW k b=some (ns,r)->By r
 | 0,b,ns,r,c,h=>by injection h with h;injection h with d a;rw[<-a];exact c
 | k+1,b,ns,r,c,h=>by
   rw[qW] at h
   split at h
   ·cases h
   ·rename_i n f e
    obtain⟨q,d,a⟩:=Option.map_eq_some_iff.1 h
    injection a with a h3
    rw[<-h3]
    exact yT (zaa c e).2.2 (ns:=q.1) d
theorem vo:∀(k m:Nat) (b:List Int),qW (k+m) b=(qW k b).bind λq=>(qW m q.2).map λz=>(q.1++z.1,z.2)
 | 0,m,b=>by
   rw[Nat.zero_add]
   show _=(qW m b).map λz=>([]++z.1,z.2)
   cases qW m b<;>rfl
 | k+1,m,b=>by
   rw[show k+1+m=(k+m)+1 by omega,qW,qW]
   cases tkI b with
   | none=>rfl
   | some q=>
     obtain⟨n,r⟩:=q
     simp only
     rw[vo k m r]
     cases qW k r with
     | none=>rfl
     | some z=>
       simp only[Option.bind_some,Option.map_some]
       cases qW m z.2<;>rfl
theorem Qda{H:List Ob}{i:Nat}{p:Nat × Nat}{n:Int}{o:Ob}(h:p.1≠i):wY (H.set i o) p n=(wY H p n).set i o:=by
 unfold wY
 rw[zc (Ne.symm h)]
 split
 ·rw[List.set_comm _ _ (Ne.symm h)]
 ·rfl
theorem WM{i:Nat}{o:Ob}:∀ {a:List (Nat × Nat)} {ns:List Int} {H:List Ob},(∀p∈a,p.1≠i)->wZ (H.set i o) a ns=(wZ H a ns).set i o
 | [],_,_,_=>by cases ‹List Int› <;>rfl
 | p::a,[],_,_=>rfl
 | p::a,n::ns,H,h=>by
   rw[wZ,wZ,Qda (h p (.head _)),WM λq b=>h q (.tail _ b)]
theorem zda{i:Nat}:∀ {a:List (Nat × Nat)} {b:List Int} {H:List Ob},(∀p∈a,p.1≠i)->a≠[]->XQ i a b H=(qW a.length b).map λq=>(q.2,(wZ H a q.1).set i (vu (.sl 1 (q.2.map qN))))
 | [],_,_,_,h=>absurd rfl h
 | [p],b,H,h,_=>by
   rw[XQ,List.length_singleton,qW]
   cases tkI b with
   | none=>rfl
   | some q=>rfl
 | p::p2::a,b,H,h,_=>by
   rw[XQ,List.length_cons,qW]
   cases tkI b with
   | none=>rfl
   | some q=>
     obtain⟨n,r⟩:=q
     simp only
     rw[zda (λq c=>h q (.tail _ c)) (by simp)]
     cases qW (p2::a).length r with
     | none=>rfl
     | some z=>
       simp only[Option.map_some]
       unfold XP
       rw[WM λq c=>h q (.tail _ c),qh]
       rfl
def inG(s:Setup)(n:Int)(g:Seg):Bool:=decide (n - (s.unit+s.cap)<=g.from_) && decide (g.to_<=n+(s.unit+s.cap))
def Wva(s:Setup)(n:Int)(l:List Seg):List Seg:=l.filter λg=> !inG s n g
def Wwa(q:Int->Bool)(l:List Flg):List Flg:=l.filter λf=> !q f.id
def InO(s:Setup)(p:Ev->Prop)(n:Int)(t:TellS):Prop:=∀f os,t.open_=some (f,os)->p f/\n - s.cap<=f.at_/\f.at_<=n
structure Nr (s:Setup) (p:Ev->Prop) (n:Int) (q:Int->Bool) (a b:TellS):Prop where
 seg:Wva s n a.segs=Wva s n b.segs
 flg:Wwa q a.flags=Wwa q b.flags
 opn:a.open_=b.open_∨(InO s p n a/\InO s p n b)
section
variable {s:Setup} {p:Ev->Prop} {n:Int} {q:Int->Bool} {a b t:TellS}
end
theorem KY:∀ {l:List Ev},Srt l->qj l=l
 | [],_=>rfl
 | x::l,⟨c,a⟩=>by
   rw[qj,KY a]
   cases l with
   | nil=>rfl
   | cons y b=>rw[wl,c y (by simp)];rfl
theorem wPa(l:List Ev):qj (qj l)=qj l:=KY (vl l)
theorem WN{s:Setup}{l:List Ev}{w:Int}:qC s (XJ s w l) w=qC s l w:=by
 have h:qj ((XJ s w l).filter (ZZ s w))=qj (l.filter (ZZ s w)):=by
  rw[ZJa, <-yl,wPa,List.filter_filter]
  congr 1
  refine List.filter_congr λe _=>?_
  unfold ZZ Z6
  by_cases a:e.worker=w
  ·simp[a]
  ·simp[a]
 unfold qC
 rw[Zza,Zza,h]
def yZ(L:List Seg):Int:=(L.map λg=>g.to_ - g.from_).sum
theorem vha{L:List Seg}(h:∀g∈L,g.from_<g.to_):0<=yZ L/\(L≠[]->0<yZ L):=by
 induction L with
 | nil=>simp[yZ]
 | cons g L a=>
   have d:=a λx b=>h x (.tail _ b)
   have c:=h g (.head _)
   refine⟨?_,λ_=>?_⟩<;> · simp only[yZ,List.map_cons,List.sum_cons] at *; omega
theorem jNa{p:Seg->Bool}{L:List Seg}(h:∀g∈L,g.from_<g.to_):yZ (L.filter p)<=yZ L:=by
 induction L with
 | nil=>simp
 | cons g L a=>
   have d:=a λx b=>h x (.tail _ b)
   have c:=h g (.head _)
   rw[List.filter_cons]
   split<;> · simp only[yZ,List.map_cons,List.sum_cons] at *; omega
theorem via{hi:Int}:∀ {L:List Seg} {lo:Int},lo<=hi->(∀g∈L,lo<=g.from_/\g.from_<g.to_/\g.to_<=hi)->L.Pairwise (λa b=>a.to_<=b.from_)->yZ L<=hi - lo
 | [],lo,h,_,_=>by simp[yZ];omega
 | g::L,lo,h,d,c=>by
   rw[qu] at c
   have f:=d g (.head _)
   have:=via (L:=L) (lo:=g.to_) f.2.2 (λx e=>⟨c.1 x e,(d x (.tail _ e)).2⟩) c.2
   simp only[yZ,List.map_cons,List.sum_cons] at*
   omega
theorem jOa{L:List Seg}(h:RiseTo L 32054400):yZ L<=32054400:=by
 have:=via (hi:=32054400) (lo:=0) (by decide) h.each h.gap
 omega
theorem jPa:∀(L:List Seg) (n:Int),(∀g∈L,0<=g.from_/\g.from_<g.to_/\g.to_<=32054400)->0<=n->n+yZ L<=4611686018427387904->L.foldl (λn g=>wr (n+wr (g.to_ - g.from_))) n=n+yZ L
 | [],n,_,_,_=>by simp[yZ]
 | g::L,n,a,h0,c=>by
   have f:=a g (.head _)
   have e:=(vha (L:=L) λx b=>(a x (.tail _ b)).2.1).1
   have d:yZ (g::L)=(g.to_ - g.from_)+yZ L:=by simp[yZ]
   rw[d] at c⊢
   rw[List.foldl_cons,qb (n:=g.to_ - g.from_) (by unfold Fit;omega),qb (n:=n+(g.to_ - g.from_)) (by unfold Fit;omega),jPa L _ (λx b=>a x (.tail _ b)) (by omega) (by omega)]
   omega
theorem Qea{L:List Seg}(h:RiseTo L 32054400)(k:Int):joa k L=yZ (L.filter (xh k)):=by
 have c:=jOa h
 have b:=jNa (p:=xh k) λg a=>(h.each g a).2.1
 unfold joa Jma
 rw[jPa _ 0 (λg a=>h.each g (qw.1 a).1) (by decide) (by omega)]
 omega
theorem wQa{s:Setup}{l:List Ev}{w k:Int}(a:qo s=true):(vq s l w k).eligible=yZ ((qC s l w).1.filter (xh k)):=by
 obtain⟨b,_⟩:=QJ (s:=s) (l:=l) (w:=w) a
 unfold vq
 rw[if_pos a,WN,Ww,ZHa,Qea b]
theorem Qfa{L:List Seg}(h:RiseTo L 32054400)(k:Int):(0<=yZ (L.filter (xh k))/\yZ (L.filter (xh k))<=32054400)/\decide (yZ (L.filter (xh k))>0)=L.any (xh k):=by
 have h0:=vha (L:=L.filter (xh k)) λg a=>(h.each g (qw.1 a).1).2.1
 have e:=jOa h
 have d:=jNa (p:=xh k) λg a=>(h.each g a).2.1
 refine⟨⟨h0.1,by omega⟩,?_⟩
 cases b:L.any (xh k)
 ·have:L.filter (xh k)=[]:=by
   rw[List.filter_eq_nil_iff]
   intro g a c
   rw[List.any_eq_false] at b
   exact b g a c
  rw[this];rfl
 ·obtain⟨g,a,c⟩:=List.any_eq_true.1 b
  have:L.filter (xh k)≠[]:=List.ne_nil_of_mem (qw.2 ⟨a,c⟩)
  simpa using h0.2 this
theorem J0a{a b t:Int}:Cov [⟨a,b⟩] t↔a<=t/\t<b:=by
 rw[jD]
 simp[Vh]
theorem WO{a:List Spn}{n size t:Int}(h:Cov (vg a n size) t):(0<=t/\t<32054400)/\Cov a t/\n*size<=t/\t<(n+1)*size:=by
 unfold vg at h
 split at h
 ·exact absurd h Vh
 ·rw[XI,J0a] at h
  exact⟨h.1,h.2.1,h.2.2⟩
section
variable {s:Setup} {L L1 L2:List Seg} {wk d t:Int}
structure SameW (L1 L2:List Seg) (wk:Int):Prop where
 clock:∀t,0<=t->t<32054400->Qi t=wk->(Cov (L1.map spS) t↔Cov (L2.map spS) t)
 rest:∀t,0<=t->t<32054400->Qi t=wk->(Cov ((L1.filter λg=>g.kind==3).map spS) t↔Cov ((L2.filter λg=>g.kind==3).map spS) t)
end
section
variable {s:Setup} {n wk:Int} {L L1 L2:List Seg}
end
section
variable {s:Setup} {A B:List Ev} {e:Ev} {w wk:Int}
end
def InW(l:List Spn)(a b:Int):Prop:=∀t,Cov l t->a<=t/\t<b
theorem vja:∀ {l:List Spn} {a b:Int},a<=b->PlainS l->InW l a b->0<=jy l/\jy l<=b - a
 | [],a,b,h,_,_=>by simp[jy];omega
 | x::l,a,b,h,d,hi=>by
   have n:=d.pos x (.head _)
   have k:=hi x.from_ ⟨x,.head _,by omega,by omega⟩
   have m:=hi (x.to_ - 1) ⟨x,.head _,by omega,by omega⟩
   obtain⟨i,g⟩:=qu.1 d.gap
   have j:=vja (l:=l) (a:=x.to_) (b:=b) (by omega) ⟨λs c=>d.pos s (.tail _ c),g⟩ λt ⟨s,c,f,e⟩=>by
    have:=i s c
    have:=hi t ⟨s,.tail _ c,f,e⟩
    omega
   have:jy (x::l)=(x.to_ - x.from_)+jy l:=by simp[jy]
   omega
theorem wRa{l:List Spn}{a b:Int}(h:a<=b)(hi:InW l a b):0<=jy (qg l)/\jy (qg l)<=b - a:=
 vja h (vf l) λt c=>hi t ((kI l t).1 c).2.2
theorem WP:∀ {l:List Spn} {n t:Int},Cov (Z3 l n) t->Cov l t
 | [],n,t,h=>h
 | s::r,n,t,⟨x,a,c,b⟩=>by
   rw[Z3] at a
   split at a
   ·cases a
   ·rcases zH.1 a with rfl|a
    ·refine⟨s,.head _,?_,?_⟩<;>(unfold Z2 at c b;simp only at c b;omega)
    ·obtain⟨y,d,q⟩:=WP ⟨x,a,c,b⟩
     exact⟨y,.tail _ d,q⟩
theorem zea{l:List Spn}{n t:Int}(h:Cov (qv l n) t):Cov l t:=((kI l t).1 (WP h)).2.2
theorem WQ{W:List Spn}{L:List Int}{n t:Int}(h:Cov (L.flatMap λd=>qv (xf W d) n) t):Cov W t:=by
 obtain⟨x,b,q⟩:=h
 obtain⟨d,_,a⟩:=List.mem_flatMap.1 b
 exact(WO (zea ⟨x,a,q⟩)).2.1
theorem Qga{s:Setup}{p:List Spn}{w t:Int}{j:Nat}(h:Cov (oj (QR s p w) j) t):Cov (jh p w) t:=by
 match j with
 | 0=>exact WQ (zea h)
 | 1=>exact WQ (JU.1 h).2.1
 | j+2=>exact(JU.1 h).2.1
theorem wSa{s:Setup}{l:List Spn}{t:Int}(h:Cov (jL s l) t):Cov l t:=by
 unfold jL at h
 split at h
 ·exact(XI.1 h).2.1
 ·obtain⟨x,a,_⟩:=h;cases a
theorem z6a{l:List Spn}{k:Int}{p:Pt}(h:p∈yX l k){t:Int}(b:p.from_<=t)(a:t<p.to_):Cov l t:=by
 obtain⟨x,c,rfl⟩:=zx.1 h
 exact⟨x,c,b,a⟩
theorem vka{s:Setup}{o:List Spn × List Spn × List Spn}{fr:List Spn}{p:Pt}{t:Int}(b:p.from_<=t)(a:t<p.to_):∀ {j:Nat},p∈Jo s o fr j->Cov fr t∨∃i,Cov (oj o i) t
 | 0,h=> .inl (z6a h b a)
 | j+1,h=>by
   rcases zK.1 h with h|h
   ·rcases zK.1 h with h|h
    ·exact vka b a h
    ·exact .inr ⟨j,(JU.1 (z6a h b a)).2.1⟩
   ·exact .inr ⟨j,wSa (z6a h b a)⟩
theorem J1a{s:Setup}{L:List Seg}{wk k:Int}:0<=yY (wg s L wk) k/\yY (wg s L wk) k<=604800:=by
 have h:=wRa (l:=wo (wg s L wk) k) (a:=wk*604800) (b:=(wk+1)*604800) (by omega) λt ⟨x,f,e,d⟩=>by
  obtain⟨p,c,rfl⟩:=zx.1 f
  have c:=(qw.1 c).1
  rcases vka (t:=t) e d c with q|⟨i,q⟩
  ·exact(WO q).2.2
  ·exact(WO (Qga q)).2.2
 have:(wk+1)*604800 - wk*604800=604800:=by omega
 rw[this] at h
 exact h
structure Money (s:Setup):Prop where
 rates:∀r∈s.rates,0<=r/\r<=100000
 diff:0<=s.diff/\s.diff<=100000
 least:0<=s.least/\s.least<=100000
 bonus:∀t∈s.tiers,0<=t.2/\t.2<=100000
theorem jQa:∀ {l:List Xx} {last:Int},xy last l=false->∀t∈l,0<=t.2/\t.2<=100000
 | [],_,_,_,h=>by cases h
 | x::l,last,a,t,h=>by
   rw[xy,zQ] at a
   rcases zH.1 h with rfl|h
   ·have:=a.1
    unfold yj at this
    rw[zQ] at this
    exact Zx (by simpa using this.2)
   ·exact jQa a.2 t h
theorem Qha{s:Setup}(h:qo s=true):Money s:=by
 simp only[qo,wH,zj,Bool.not_eq_true'] at h
 obtain⟨_,⟨⟨⟨_,c⟩,a⟩,_⟩,b⟩:=h
 exact⟨λr d=>vC c d,vC a (by simp),vC a (by simp),jQa b⟩
theorem vla(n:Int):0<=Z8 n/\Z8 n<=604800:=by unfold Z8;omega
theorem zfa{n d:Int}(a:0<=n)(g:n<4611686018427387904)(e:0<d):(xL n d).1=n / d/\(xL n d).2=n % d:=by
 have c:n.tmod d=n % d:=Int.tmod_eq_emod_of_nonneg a
 have b:n.tdiv d=n / d:=Int.tdiv_eq_ediv_of_nonneg a
 have f:=Int.emod_nonneg n (show d≠0 by omega)
 have i:0<=n / d:=Int.ediv_nonneg a (by omega)
 have h:n / d<=n:=Int.ediv_le_self d a
 unfold xL
 rw[c,b,if_neg (by omega)]
 exact⟨qb (by unfold Fit;omega),rfl⟩
theorem vma{n d:Int}(a:0<=n)(e:n<4611686018427387904)(b:0<d)(c:d<4611686018427387904):0<=Ye n d/\Ye n d<=n+1:=by
 obtain⟨f,g⟩:=zfa a e b
 have i:0<=n / d:=Int.ediv_nonneg a (by omega)
 have h:n / d<=n:=Int.ediv_le_self d a
 unfold Ye XB
 rw[if_neg (by omega),f]
 split
 ·show 0<=wr (n / d+1)/\wr (n / d+1)<=n+1
  rw[qb (by unfold Fit;omega)];omega
 ·show 0<=n / d/\n / d<=n+1
  omega
theorem KRa{n d:Int}(a:0<=n)(e:n<4611686018427387904)(b:0<d):0<=(upI n d).1/\(upI n d).1<=n+1/\n<=(upI n d).1*d:=by
 obtain⟨f,c⟩:=zfa a e b
 have h:=Int.emod_nonneg n (show d≠0 by omega)
 have i:=Int.emod_lt_of_pos n b
 have k:0<=n / d:=Int.ediv_nonneg a (by omega)
 have j:n / d<=n:=Int.ediv_le_self d a
 have g:n=n / d*d+n % d:=by have:=Int.mul_ediv_add_emod n d;rw[Int.mul_comm] at this;omega
 unfold upI
 rw[if_neg (by omega),f,c]
 split
 ·show 0<=wr (n / d+1)/\wr (n / d+1)<=n+1/\n<=wr (n / d+1)*d
  rw[qb (by unfold Fit;omega),Int.add_mul]
  omega
 ·show 0<=n / d/\n / d<=n+1/\n<=n / d*d
  omega
theorem vna:∀ {l:List Int} {a:Int},0<=a->(∀x∈l,0<=x/\x<17592186044416)->a+17592186044416*l.length<4611686018427387904->J1 a l=(a+l.sum,0)
 | [],a,_,_,_=>by simp[J1]
 | x::l,a,i,b,f=>by
   obtain⟨h,g⟩:=b x (.head _)
   rw[List.length_cons] at f
   have c:wr (a+x)=a+x:=qb (by unfold Fit;omega)
   rw[J1,c]
   have e:((decide (x>0)==decide (a+x>a)) || x==0)=true:=by
    have:decide (x>0)=decide (a+x>a):=decide_eq_decide.2 (by omega)
    rw[this,beq_self_eq_true,Bool.true_or]
   rw[if_pos e,vna (by omega) (λy d=>b y (.tail _ d)) (by omega),List.sum_cons,Int.add_assoc]
theorem wTa{s:Setup}(m:Money s){r:Int}(a:0<=r/\r<=100000){j:Nat}(e:j<=6):0<=yS s r j/\yS s r j<=1000000:=by
 have b:=m.diff
 have t3:∀k:Int,0<=k->k<=3->0<=J0 r k/\J0 r k<=400000:=λk k0 k3=>by
  unfold J0
  rw[qb (n:=k+1) (by unfold Fit;omega)]
  have d:0<=r*(k+1):=Int.mul_nonneg a.1 (by omega)
  have c:r*(k+1)<=100000*4:=Int.mul_le_mul a.2 (by omega) (by omega) (by omega)
  rw[qb (by unfold Fit;omega)]
  omega
 unfold yS
 split
 ·have:=t3 ((j:Int) - 3) (by omega) (by omega)
  rw[qb (n:=2*s.diff) (by unfold Fit;omega),qb (by unfold Fit;omega)]
  omega
 ·have:=t3 j (by omega) (by omega)
  omega
theorem Qia{s:Setup}(m:Money s)(w:Nat):0<=QS s w/\QS s w<=100000:=by
 unfold QS
 rw[zG]
 cases h:s.rates[w]? with
 | none=>exact⟨by decide,by decide⟩
 | some r=>exact m.rates r (qn h)
theorem Qja{s:Setup}(m:Money s)(w:Nat)(t:Nat->Int){j:Nat}(e:j<=6):0<=kO s w t j/\kO s w t j<17592186044416:=by
 unfold kO
 split
 ·exact⟨by decide,by decide⟩
 ·have b:=vla (t j)
  have a:=wTa m (Qia m w) e
  have c:0<=Z8 (t j)*yS s (QS s w) j:=Int.mul_nonneg b.1 a.1
  have f:Z8 (t j)*yS s (QS s w) j<=604800*1000000:=Int.mul_le_mul b.2 a.2 a.1 (by omega)
  rw[qb (by unfold Fit;omega)]
  have:=vma (n:=Z8 (t j)*yS s (QS s w) j) (d:=7200) c (by omega) (by omega) (by omega)
  omega
theorem wUa{s:Setup}(m:Money s)(g tier:Int):(0<=kP s g tier/\kP s g tier<17592186044416)/\(tier<0->kP s g tier=0):=by
 unfold kP
 split
 ·rename_i h
  have b:=vla g
  have a:0<=KP s tier.toNat/\KP s tier.toNat<=100000:=by
   unfold KP
   rw[zG]
   cases q:s.tiers[tier.toNat]? with
   | none=>exact⟨by decide,by decide⟩
   | some r=>exact m.bonus r (qn q)
  have c:0<=Z8 g*KP s tier.toNat:=Int.mul_nonneg b.1 a.1
  have e:Z8 g*KP s tier.toNat<=604800*100000:=Int.mul_le_mul b.2 a.2 a.1 (by omega)
  rw[qb (by unfold Fit;omega)]
  have:=vma (n:=Z8 g*KP s tier.toNat) (d:=3600) c (by omega) (by omega) (by omega)
  exact⟨by omega,λq=>by omega⟩
 ·exact⟨⟨by decide,by decide⟩,λ_=>rfl⟩
def J2a(b:Int)(f:Nat->Int):Nat->Int
 | 0=>b
 | n+1=>wr (J2a b f n+f n)
def ksa(t:Nat->Int):Nat->Int
 | 0=>0
 | n+1=>if n=0 then ksa t n else wr (ksa t n+t n)
theorem Qka{t:Nat->Int}(b:∀j,0<=t j/\t j<=604800):∀n,n<=7->ksa t n=Ql t n/\0<=Ql t n/\Ql t n<=604800*n
 | 0,_=>⟨rfl,by show(0:Int)<=0;omega,by show(0:Int)<=604800*((0:Nat):Int);omega⟩
 | n+1,c=>by
   obtain⟨d,f,g⟩:=Qka b n (by omega)
   have h:=b n
   have e:Z8 (t n)=t n:=by unfold Z8;omega
   rw[ksa,Ql]
   by_cases a:n=0
   ·subst a
    rw[if_pos rfl,if_pos rfl]
    exact⟨rfl,by omega,by omega⟩
   ·rw[if_neg a,if_neg a,e,d,qb (by unfold Fit;omega)]
    exact⟨rfl,by omega,by omega⟩
structure PayOk (s:Setup) (t:Nat->Int) (p:PayR) (tier:Int):Prop where
 zero:p.pays 0=0
 sum:J2a (wr (p.extra+p.supp)) p.pays 7=p.total
 none:tier<0->p.extra=0
 least:wr (ksa t 7*s.least)<=wr (p.total*3600)
def xD(e:Int):Prop:=e=0∨e=10∨e=20∨e=100
theorem kta(n d:Int):xD (make n d).2:=by
 unfold make
 split
 ·exact .inr (.inr (.inl rfl))
 ·split
  ·exact .inl rfl
  ·split
   ·exact .inr (.inl rfl)
   ·exact .inl rfl
theorem KZ(v:qd->qd->Int × Int)(a b:qd):xD (yi v a b).2:=by
 unfold yi
 split
 ·exact kta _ _
 ·exact .inr (.inr (.inl rfl))
theorem Qla:∀ {l:List qd} {o:qd},xD (K6 o l).2
 | [],o=> .inl rfl
 | r::l,o=>by
   rw[K6]
   split
   ·exact KZ _ _ _
   ·exact Qla
theorem kua(l:List qd):xD (wU l).2:=by
 unfold wU
 split
 ·exact Qla
 ·exact .inr (.inr (.inl rfl))
theorem J5{f:qd->qd->qd × Int}(d:∀a b,xD (f a b).2){a b:qd}{e:Int}(c:xD e):xD (vp f a b e).2:=by
 unfold vp
 split
 ·exact d _ _
 ·exact c
theorem J3a{s:Setup}{e:Ev}{a:Int}:xD (yO s e a).2:=
 J5 (KZ zRa) (J5 (λ_ _=>kua _) (J5 (KZ zRa) (J5 (λ_ _=>kua _) (J5 (KZ zRa) (J5 (KZ zRa) (J5 (KZ zRa) (.inl rfl)))))))
theorem KSa{s:Setup}{e:Ev}:xD (kF s e).2:=by
 unfold kF
 split
 ·split
  ·exact .inr (.inr (.inr rfl))
  ·split
   ·exact .inl rfl
   ·exact J3a
 ·exact .inr (.inr (.inr rfl))
theorem J6{z v:qd × Int}(a:xD z.2)(b:xD v.2):xD (qQ z v).2:=by
 unfold qQ
 split
 ·exact b
 ·exact a
theorem Qma{s:Setup}{ev:List Ev}:∀(l:List Seg) (z:qd × Int),xD z.2->xD (l.foldl (λz g=>qQ z ((0,1),(kF s (yP ev g)).2)) z).2
 | [],_,h=>h
 | g::l,z,h=>Qma l _ (J6 h KSa)
theorem Qna{c:Prop}[Decidable c]{a b:qd × Int}(d:xD a.2)(e:xD b.2):xD (if c then a else b).2:=by
 split<;>assumption
theorem KTa{s:Setup}{ev:List Ev}{l:List Seg}{k:Int}:xD (jma s ev l k).err:=by
 unfold jma
 extract_lets sel eligible goals all0 all1 lost all2 all3 all4 done
 have h0:xD all0.2:=Qma _ _ (.inl rfl)
 have d:xD all1.2:=J6 h0 (kua _)
 have g:xD lost.2:=J6 d (kta _ _)
 have a:xD all2.2:=J6 d g
 have b:xD all3.2:=Qna (J6 a (KZ _ _ _)) a
 have e:xD all4.2:=Qna b b
 have f:xD done.2:=Qna (J6 (J6 e (kta _ _)) (KZ _ _ _)) e
 by_cases c:done.2=0
 ·rw[if_pos c];exact .inl rfl
 ·rw[if_neg c];exact f
theorem KUa{s:Setup}{l:List Ev}{w k:Int}:xD (vq s l w k).err:=by
 unfold vq
 split
 ·exact KTa
 ·exact .inl rfl
structure GrossOk (s:Setup) (R:RowV):Prop where
 bad:R.err=70∨R.err=80∨R.err=212->J2a (wr (R.extra+R.supp)) R.pays 7=0/\ksa R.tot 7=0/\R.total=0/\R.tier= -1/\R.elig=0
 sum:¬ (R.err=70∨R.err=80∨R.err=212)->J2a (wr (R.extra+R.supp)) R.pays 7=R.total/\R.pays 0=0/\(0<=R.tier∨R.extra=0)/\((0<R.elig/\R.err=0)∨R.tier= -1)/\wr (ksa R.tot 7*s.least)<=wr (R.total*3600)
theorem PnH.base{h M:List Ob}{i:Nat}{Q:List Int × Bool}{H:List Ob}(k:PnH (h++M) i Q H)(hi:i<h.length)(a:NoRes M):PnH h i Q H:=by
 obtain⟨z,L,k1,k2,k3⟩:=k.eq
 exact⟨z,M++L,k1,by rw[k2,qV _ _ hi,zn],a.app k3⟩
theorem PnH.sl{h:List Ob}{i:Nat}{Q:List Int × Bool}{H:List Ob}(k:PnH h i Q H){t:TypeId}{cs:List AV}(hi:h[i]? =some (.box t cs)){x:AV}{e:Nat}{rows:List (List AV)}(a:SlOf h x e rows):SlOf H x e rows:=by
 obtain⟨z,L,k1,k2,k3⟩:=k.eq
 rw[k2]
 exact(a.keep (.setB hi)).app _
def vE(F:List Flg):List Int:=F.flatMap λf=>[f.id,f.kind]
theorem Jj:∀F:List Flg,(vE F).length=2*F.length
 | []=>rfl
 | f::F=>by
   have:=Jj F
   unfold vE at*
   rw[List.flatMap_cons,ze,List.length_cons,this];simp;omega
theorem kva{F:List Flg}{n:Nat}(h:n<F.length):vE (F.take (n+1))=vE (F.take n)++[(F[n]).id,(F[n]).kind]:=by
 unfold vE
 rw[show F.take (n+1)=F.take n++[F[n]] from(zD h).symm,List.flatMap_append];simp
def jd(R:RowV)(F:List Flg):List Int:=jN R++[(F.length:Int)]++vE F
theorem yU(R:RowV):(jN R).length=26:=rfl
theorem voa(h:List Ob)(i:Nat)(z:AV)(Q:List Int × Bool)(R:RowV)(c:AV)(F:List Flg)(hi:h[i]? =some (.box 107 [z,bl Q.2]))(hz:Sb z Q.1)(ht:Fit R.tier)(N:SlOf h c 2 (F.map jT))(hQ:Q.1.length<134217728)(γ:F.length<524288):
  ACalls Tryz.prog 46 [.ptr i 0,.ag (jJ R c)] h λr h'=>r= .tup []/\PnH h i (xC Q (jd R F)) h':=by
 have d:=(zd.1 hi).1
 have u:=N.one
 have hex:∃r h',(r=AV.tup []/\PnH h i (xC Q (jd R F)) h')/\ResK h h':=
  ⟨_,h.set i (.box 107 [.sl 1 ((xC Q (jd R F)).1.map qN),bl (xC Q (jd R F)).2]),⟨rfl,_,[],.inl rfl,by simp,xr⟩,qH hi rfl⟩
 have C:=λns=>QT ns Q
 refine zl Tryz.f46 [] 29 rfl rfl rfl rfl rfl rfl (by decide) (hex) λB=>?_
 simp only[go_sem,u]
 have O:(h++[Ob.box 45 (jJ R c)])[i]? =some (.box 107 [z,bl Q.2]):=zf hi
 have s:(h++[Ob.box 45 (jJ R c)])[h.length]? =some (.box 45 (jJ R c)):=by rw[zM rfl];rfl
 have l:h.length≠i:=by omega
 refine zi (KQa _ i h.length z Q R c l O hz s ht u (by omega)) ?_
 rintro _ a ⟨rfl,k1⟩
 have j:=k1.get l s
 have w:zZ a c=some (F.map jT):=by
  obtain⟨z0,L0,_,y,_⟩:=k1.eq
  rw[y,qV _ _ d,zn]
  exact((N.keep (.setB hi)).app _).rows
 simp only[go_sem,j,w,zb]
 have P:=k1.base d (zF rfl)
 have t:=P.app (M:=[.box 3 [i64 F.length],.row 109 1 [[.ptr a.length 0]] 0]) (zp rfl (zF rfl))
 have A:=C (jN R)
 rw[yU] at A
 have ζ:i<a.length:=by
  obtain⟨z0,L0,_,y,_⟩:=P.eq
  rw[y,ze,zP];omega
 have b:(a++[Ob.box 3 [i64 F.length],.row 109 1 [[.ptr a.length 0]] 0])[a.length]? =some (.box 3 [i64 F.length]):=by rw[zM rfl];rfl
 have G:(a++[Ob.box 3 [i64 F.length],.row 109 1 [[.ptr a.length 0]] 0])[h.length]? =some (.box 45 (jJ R c)):=zf j
 refine zi (WL t d (.tl (a.length+1) 0) [(.ptr a.length 0,(F.length:Int))] ⟨by rw[qS,zN (k:=1) rfl];rfl,λ_=>by rw[j5,zN (k:=1) rfl];rfl⟩ (λp I=>by
  rw[zJ] at I
  subst I
  exact⟨a.length,0,_,_,rfl,by omega,b,by show 0<1;decide,rfl⟩) (by omega) (by show 1<1048576;decide)) ?_
 rintro _ H2 ⟨rfl,k2,Z⟩
 rw[<-ZG] at k2
 have E:=Z h.length _ l G
 have v:=(k2.sl hi N).rows
 simp only[go_sem,E,v,zb]
 refine zO (by decide) (λm T H=>∃n:Nat,n<=F.length/\PnH h i (xC Q (jN R++[(F.length:Int)]++vE (F.take n))) H/\T 0= .ptr i 0/\T 17=c/\T 18=i64 F.length/\T 19=i64 n/\m=F.length - n) F.length
  ⟨0,by omega,by simpa [vE] using k2,by simp only[go_sem],by simp only[go_sem],by(simp only[go_sem]<;>rfl),by(simp only[go_sem]<;>rfl),rfl⟩ ?_
 clear k1 k2 P t j G E v w b Z
 rintro m T H ⟨n,hn,J,t0,L,D,q,rfl⟩
 simp only[go_sem,D,q]
 refine ways (λe=>?_) (λe=>?_)
 ·have o:=dlt e
  have f:=vea o
  have S:(n:Int)<F.length:=by omega
  have x:=J.sl hi N
  have W:=x.at (i:=n) (by rw[zb];exact o)
  have V:=x.rows
  have K:=kva o
  obtain⟨g,hg⟩:∃g,g=F[n]:=⟨_,rfl⟩
  rw[<-hg] at f K
  simp only[go_sem,t0,L,q,W,V,f,S,zb,Int.toNat_natCast,zg]
  have η:i<H.length:=by
   obtain⟨z0,L0,_,y,_⟩:=J.eq
   rw[y,ze,zP];omega
  have U:=J.app (M:=[.box 105 [i64 g.id,i64 g.kind],.row 109 1 [[.ptr H.length 0],[.ptr H.length 1]] 0]) (zp rfl (zF rfl))
  have b:(H++[Ob.box 105 [i64 g.id,i64 g.kind],.row 109 1 [[.ptr H.length 0],[.ptr H.length 1]] 0])[H.length]? =some (.box 105 [i64 g.id,i64 g.kind]):=by rw[zM rfl];rfl
  have A:=C (jN R++[(F.length:Int)]++vE (F.take n))
  have Y:(jN R++[(F.length:Int)]++vE (F.take n)).length<=27+2*F.length:=by
   rw[ze,ze,yU,Jj,zX]
   show 26+1+_<=_
   omega
  refine zi (WL U d (.tl (H.length+1) 0) [(.ptr H.length 0,g.id),(.ptr H.length 1,g.kind)] ⟨by rw[qS,zN (k:=1) rfl];rfl,λ_=>by rw[j5,zN (k:=1) rfl];rfl⟩ (λp I=>by
   simp only[zH,List.not_mem_nil,or_false] at I
   rcases I with rfl|rfl
   ·exact⟨H.length,0,_,_,rfl,by omega,b,by show 0<2;decide,rfl⟩
   ·exact⟨H.length,1,_,_,rfl,by omega,b,by show 1<2;decide,rfl⟩) (by omega) (by show 2<1048576;decide)) ?_
  rintro _ H3 ⟨rfl,k3,g3⟩
  rw[<-ZG] at k3
  simp only[go_sem,q]
  exact⟨F.length - (n+1),by omega,n+1,by omega,by rw[K];simpa using k3,t0,L,D,qc (by omega) rfl,rfl⟩
 ·have β:=xc e
  have X:n=F.length:=by omega
  subst X
  rw[zY] at J
  simp only[go_sem]
  exact⟨_,rfl,.inl ⟨rfl,J⟩⟩
