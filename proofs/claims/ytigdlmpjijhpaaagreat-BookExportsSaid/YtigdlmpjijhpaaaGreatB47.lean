import Derived.Test.YtigdlmpjijhpaaaGreatBA
import Derived.Test.YtigdlmpjijhpaaaGreatB46
import Derived.Test.YtigdlmpjijhpaaaGreatB34
import Derived.Test.YtigdlmpjijhpaaaGreatB44
import Derived.Test.YtigdlmpjijhpaaaGreatB37
set_option linter.all false
namespace Go.Proofs.YtigdlmpjijhpaaaGreat.Ax
open Go Go.Proofs
set_option maxRecDepth 100000
theorem vka:∀ {a:List Int} {cs:List AV} {o m:Nat},m<o∨o+a.length<=m->(setR cs o a)[m]? =cs[m]?
 | [],cs,o,m,_=>rfl
 | t::a,cs,o,m,h=>by
   rw[List.length_cons] at h
   rw[setR,vka (by omega),zc (by omega)]
def kn(a:AV):List AV:=[i64 0,i64 0,i64 0,i64 0,i64 0,i64 0,i64 0,i64 0,i64 0,i64 0,i64 0,i64 0,i64 0,i64 0,i64 0,i64 0,i64 0,i64 0,i64 0,i64 0,i64 0,i64 0,i64 0,i64 0,i64 0,i64 0,a]
def zDb(cs:List AV)(a b c d e t f g k:Int):List AV:=((((((((cs.set 17 (i64 a)).set 18 (i64 b)).set 19 (i64 c)).set 20 (i64 d)).set 21 (i64 e)).set 23 (i64 f)).set 24 (i64 g)).set 25 (i64 k)).set 22 (i64 (IntKind.wrap .i64 (t - 1)))
theorem y9a{H:List Ob}{j o:Nat}{X:List AV}{n:Int}{u:Ob}(a:H[j]? =some u):yZ (H.set j (yQ X)) (j,o) n=H.set j (yQ (X.set o (i64 n))):=by
 rw[vh (p:=(j,o)) (zq a),zU]
theorem Kya{H:List Ob}{j m o:Nat}{X:List AV}{n:Int}{u v:Ob}(b:H[j]? =some u)(a:m≠j):yZ ((H.set j (yQ X)).set m v) (j,o) n=(H.set j (yQ (X.set o (i64 n)))).set m v:=by
 rw[vh (p:=(j,o)) (by rw[zc a];exact zq b),List.set_comm _ _ a,zU]
theorem jDb{l:List Int}(h:l.length=3):∃a b c,l=[a,b,c]:=by
 match l,h with
 | [a,b,c],_=>exact⟨a,b,c,rfl⟩
theorem jEb{l:List Int}(h:l.length=1):∃a,l=[a]:=by
 match l,h with
 | [a],_=>exact⟨a,rfl⟩
theorem xHb{l:List Int}(h:l.length=9):∃a b c d e t f g k,l=[a,b,c,d,e,t,f,g,k]:=by
 match l,h with
 | [a,b,c,d,e,t,f,g,k],_=>exact⟨a,b,c,d,e,t,f,g,k,rfl⟩
theorem Xu{k m:Nat}{b:List Int}(h:jm k b=none):jm (k+m) b=none:=by rw[vX,h];rfl
theorem Qz:∀ {k:Nat} {b ns r:List Int},By b->jm k b=some (ns,r)->r.length<=b.length
 | 0,b,ns,r,d,h=>by injection h with h;injection h with c a;rw[<-a];exact zn _
 | k+1,b,ns,r,d,h=>by
   rw[jm] at h
   split at h
   ·cases h
   ·rename_i n l i
    obtain⟨q,c,a⟩:=Option.map_eq_some_iff.1 h
    injection a with a h3
    obtain⟨g,j,e⟩:=k9a d i
    have f:=Qz (ns:=q.1) (r:=q.2) e c
    rw[h3] at f
    rw[g,ze]
    omega
theorem zXa{k:Nat}{b ns r:List Int}{t:Int}{a:List Int}(h:jm k b=some (ns,r))(c:jm 1 r=some ([t],a)):jm (k+1) b=some (ns++[t],a):=by
 rw[vX,h]
 simp only[Option.bind_some,c,Option.map_some]
set_option maxHeartbeats 4000000 in
theorem WEa(h:List Ob)(i j:Nat)(b:List Int)(A:AV)(q:j≠i)(hi:h[i]? =some (we (.sl 1 (b.map qX))))(hj:h[j]? =some (yQ (kn A)))(hb:By b)(hl:b.length<1099511627776):
  PCalls Tryz.prog 49 [.ptr j 0,.fn (.func 50) [.ptr i 0] []] h
   (λr h'=>r= .tup []/\∃ns b1 a C c d e t f g k rest,jm 17 b=some (ns,b1)/\jm 9 b1=some ([a,C,c,d,e,t,f,g,k],rest)/\StR h j i (zDb (setR (kn A) 0 ns) a C c d e t f g k) rest h')
   (λch h'=>ch=[Kk]/\jm 26 b=none/\FrR j i h h'):=by
 have E:=(zd.1 hi).1
 have l:=(zd.1 hj).1
 have base:StR h j i (kn A) b h:=⟨[],by rw[zF,qM hj,qM hi],jf⟩
 refine V5 Tryz.f49 [] 90 rfl rfl rfl rfl rfl rfl λB=>?_
 have D:(2<(kn A).length)=True:=eq_true (by show 2<27;decide)
 have hn2:nth (kn A) 2=i64 0:=rfl
 refine qf (by decide) ?_
 simp only[go_sem,hj,D,hn2]
 refine qK (jD ?_)
 refine zMa [_,_,_,_,_,_,_,_] _ rfl rfl [.res] 1 [(0,0,[]),(1,0,[]),(2,0,[]),(3,0,[]),(4,0,[]),(5,0,[]),(6,0,[]),(7,0,[])] rfl (by decide) (by decide) (by decide) (by decide) ?_
 simp only[go_sem]
 have k0:=base.app (M:=[.box 3 [i64 0],.row 109 1 [[.ptr j 0],[.ptr j 1],[.ptr h.length 0]] 0]) (zr rfl (zG rfl))
 obtain⟨H0,L⟩:∃H0,H0=h++[Ob.box 3 [i64 0],.row 109 1 [[.ptr j 0],[.ptr j 1],[.ptr h.length 0]] 0]:=⟨_,rfl⟩
 have α:H0[h.length]? =some (.box 3 [i64 0]):=by rw[L,zM rfl];rfl
 have χ:SlOf H0 (.tl (h.length+1) 0) 1 ([(j,0),(j,1),(h.length,0)].map λp=>[.ptr p.1 p.2]):=yW (ty:=109) (by rw[L,zK (k:=1) rfl];rfl)
 rw[<-L] at k0
 have hl0:=k0.len
 rw[<-L]
 clear L
 refine wS (zWa k0 q l E rfl hb hl _ [(j,0),(j,1),(h.length,0)] χ (λp N=>by
  simp only[zE,List.not_mem_nil,or_false] at N
  rcases N with rfl|rfl|rfl
  ·exact .inl ⟨rfl,by show 0<27;decide⟩
  ·exact .inl ⟨rfl,by show 1<27;decide⟩
  ·exact .inr ⟨zn _,_,_,α,Nat.zero_lt_one⟩) (by simp) (by show 3<1048576;decide)) ?_ ?_
 rotate_left
 ·rintro ch h' ⟨rfl,h1,F⟩
  exact⟨rfl,Xu (m:=23) h1,F⟩
 rintro r h' ⟨rfl,ns,b1,V,rfl⟩
 obtain⟨a,C,c,rfl⟩:=jDb (xS V)
 have hb1:=ZN hb V
 have I:=k0.row q l
 have e1:y6 H0 [(j,0),(j,1),(h.length,0)] [a,C,c]=((H0.set j (yQ (setR (kn A) 0 [a,C]))).set h.length (.box 3 [i64 c])):=by
  show yZ (yZ (yZ H0 (j,0) a) (j,1) C) (h.length,0) c=_
  rw[vh (p:=(j,0)) I,vh (p:=(j,1)) (zq I),zU,vh (p:=(h.length,0)) (ty:=3) (cs:=[i64 0]) (by rw[zc (by omega)];exact α)]
  rfl
 rw[e1]
 have k1:=((k0.setj q l (setR (kn A) 0 [a,C])).setL (m:=h.length) (zn _) (o:= .box 3 [i64 c]) rfl).seti E b1
 obtain⟨H1,ο⟩:∃H1,H1=(((H0.set j (yQ (setR (kn A) 0 [a,C]))).set h.length (.box 3 [i64 c])).set i (we (.sl 1 (b1.map qX)))):=⟨_,rfl⟩
 have he1:H1[h.length]? =some (.box 3 [i64 c]):=by
  rw[ο,zc (by omega)]
  exact zq (by rw[zc (by omega)];exact α)
 rw[<-ο] at k1⊢
 clear ο e1 k0 α χ hl0 I
 have R:=k1.row q l
 have Q:=W0 (cs:=setR (kn A) 0 [a,C]) (o:=2) (x:=i64 c) (by rw[J5];show 2<27;decide)
 simp only[go_sem]
 refine qK (qf (by decide) ?_)
 simp only[go_sem,R,he1,Q]
 have k2:=k1.setj q l ((setR (kn A) 0 [a,C]).set 2 (i64 c))
 obtain⟨H2,ν⟩:∃H2,H2=H1.set j (yQ ((setR (kn A) 0 [a,C]).set 2 (i64 c))):=⟨_,rfl⟩
 rw[<-ν] at k2
 rw[<-ν]
 clear ν k1 he1 R Q
 have hb1l:=Qz hb V
 refine qK (jD (qf (by decide) ?_))
 simp only[go_sem]
 refine qK (xE (Zt (λm T H=>∃(n:Nat) (y bk:List Int),n<=7/\y.length=n/\jm (3+n) b=some ([a,C,c]++y,bk)/\StR h j i (setR (kn A) 0 ([a,C,c]++y)) bk H/\T 0= .ptr j 0/\T 1= .fn (.func 50) [.ptr i 0] []/\T 25=i64 n/\m=7 - n) 7
  ⟨0,[],b1,by omega,rfl,V,k2,by simp only[go_sem],by simp only[go_sem],by(simp only[go_sem]<;>rfl),rfl⟩ ?_))
 clear k2 hb1l
 rintro m T H ⟨n,y,bk,hn,W,w,U,t0,t1,t25,rfl⟩
 have S:=ZN hb w
 have hbl:=Qz hb w
 refine qf (by decide) ?_
 simp only[go_sem,t25]
 refine qK (qf (by decide) ?_)
 simp only[go_sem]
 refine ways (λe=>?_) (λe=>?_)
 ·have ξ:(n:Int)<7:=of_decide_eq_true e
  have D:n<7:=by omega
  simp only[go_sem]
  refine qK (jD (xE ?_))
  refine qf (by decide) ?_
  simp only[go_sem,t25]
  refine qK ?_
  refine Qx [_,_,_,_,_,_,_] _ rfl rfl (by decide) ?_
  simp only[go_sem,t0,t1,ξ,D,Nat.mul_one,Int.toNat_natCast,zh]
  have u:=U.app (M:=[.row 109 1 [[.ptr j (3+n)]] 0]) (zG rfl)
  refine wS (zWa u q l E (by rw[J5];rfl) S (by omega) _ [(j,3+n)] (yW (ty:=109) (by rw[zM rfl];rfl)) (λp N=>by
   rw[zN] at N
   subst N
   exact .inl ⟨rfl,by show 3+n<27;omega⟩) (by simp) (by show 1<1048576;decide)) ?_ ?_
  rotate_left
  ·rintro ch h' ⟨rfl,h1,F⟩
   refine⟨rfl,?_,F⟩
   have:jm (3+n+1) b=none:=by rw[vX,w];simp only[Option.bind_some];rw[show jm 1 bk=none from h1];rfl
   rw[show 26=3+n+1+(22 - n) by omega]
   exact Xu this
  rintro r h' ⟨rfl,ns,b2,F,rfl⟩
  obtain⟨t,rfl⟩:=jEb (xS F)
  have v:=u.row q l
  have e1:∀G:List Ob,G[j]? =some (yQ (setR (kn A) 0 ([a,C,c]++y)))->y6 G [(j,3+n)] [t]=G.set j (yQ (setR (kn A) 0 ([a,C,c]++(y++[t])))):=λG hG=>by
   show yZ G (j,3+n) t=_
   rw[vh (p:=(j,3+n)) hG, <-zp,V8,ze,W,Nat.zero_add]
   rfl
  rw[e1 _ v]
  have k3:=(u.setj q l (setR (kn A) 0 ([a,C,c]++(y++[t])))).seti E b2
  have τ:=zXa w F
  simp only[go_sem]
  refine qK (qn _ (by decide) ?_)
  simp only[go_sem,t0,t1,t25]
  exact⟨7 - (n+1),by omega,n+1,y++[t],b2,by omega,by rw[ze,W];rfl,τ,k3,qm (by omega) rfl,rfl⟩
 ·have hge:¬ (n:Int)<7:=of_decide_eq_false e
  have κ:n=7:=by omega
  subst κ
  simp only[go_sem]
  obtain⟨P,μ⟩:∃P,P=[a,C,c]++y:=⟨_,rfl⟩
  have hP:P.length=10:=by rw[μ,ze,W];rfl
  rw[<-μ] at w U
  refine qK (jD (qf (by decide) ?_))
  simp only[go_sem]
  refine qK (xE (Zt (λm T H=>∃(n:Nat) (y bk:List Int),n<=7/\y.length=n/\jm (10+n) b=some (P++y,bk)/\StR h j i (setR (kn A) 0 (P++y)) bk H/\T 0= .ptr j 0/\T 1= .fn (.func 50) [.ptr i 0] []/\T 37=i64 n/\m=7 - n) 7
   ⟨0,[],bk,by omega,rfl,by rw[zF];exact w,by rw[zF];exact U,by simp only[go_sem,t0],by simp only[go_sem,t1],by(simp only[go_sem]<;>rfl),rfl⟩ ?_))
  clear U t0 t1 t25 S hbl hn W w μ
  rintro m T H ⟨n,y,bk,hn,σ,J,U,t0,t1,ι,rfl⟩
  have S:=ZN hb J
  have hbl:=Qz hb J
  refine qf (by decide) ?_
  simp only[go_sem,ι]
  refine qK (qf (by decide) ?_)
  simp only[go_sem]
  refine ways (λe=>?_) (λe=>?_)
  ·have ξ:(n:Int)<7:=of_decide_eq_true e
   have D:n<7:=by omega
   simp only[go_sem]
   refine qK (jD (xE ?_))
   refine qf (by decide) ?_
   simp only[go_sem,ι]
   refine qK ?_
   refine Qx [_,_,_,_,_,_,_] _ rfl rfl (by decide) ?_
   simp only[go_sem,t0,t1,ξ,D,Nat.mul_one,Int.toNat_natCast,zh]
   have u:=U.app (M:=[.row 109 1 [[.ptr j (10+n)]] 0]) (zG rfl)
   refine wS (zWa u q l E (by rw[J5];rfl) S (by omega) _ [(j,10+n)] (yW (ty:=109) (by rw[zM rfl];rfl)) (λp N=>by
    rw[zN] at N
    subst N
    exact .inl ⟨rfl,by show 10+n<27;omega⟩) (by simp) (by show 1<1048576;decide)) ?_ ?_
   rotate_left
   ·rintro ch h' ⟨rfl,h1,F⟩
    refine⟨rfl,?_,F⟩
    have:jm (10+n+1) b=none:=by rw[vX,J];simp only[Option.bind_some];rw[show jm 1 bk=none from h1];rfl
    rw[show 26=10+n+1+(15 - n) by omega]
    exact Xu this
   rintro r h' ⟨rfl,ns,b2,F,rfl⟩
   obtain⟨t,rfl⟩:=jEb (xS F)
   have v:=u.row q l
   have e1:∀G:List Ob,G[j]? =some (yQ (setR (kn A) 0 (P++y)))->y6 G [(j,10+n)] [t]=G.set j (yQ (setR (kn A) 0 (P++(y++[t])))):=λG hG=>by
    show yZ G (j,10+n) t=_
    rw[vh (p:=(j,10+n)) hG, <-zp,V8,ze,σ,Nat.zero_add,hP]
   rw[e1 _ v]
   have k3:=(u.setj q l (setR (kn A) 0 (P++(y++[t])))).seti E b2
   have hnu2:=zXa J F
   simp only[go_sem]
   refine qK (qn _ (by decide) ?_)
   simp only[go_sem,t0,t1,ι]
   exact⟨7 - (n+1),by omega,n+1,y++[t],b2,by omega,by rw[ze,σ];rfl,by rw[<-zp];exact hnu2,k3,qm (by omega) rfl,rfl⟩
  ·have hge:¬ (n:Int)<7:=of_decide_eq_false e
   have κ:n=7:=by omega
   subst κ
   simp only[go_sem]
   obtain⟨cs,K⟩:∃cs,cs=setR (kn A) 0 (P++y):=⟨_,rfl⟩
   have ζ:cs.length=27:=by rw[K,J5];rfl
   have hc22:nth cs 22=i64 0:=by
    have z:cs[22]? =some (i64 0):=by rw[K,vka (by rw[ze,hP,σ];omega)];rfl
    exact J6 z
   rw[<-K] at U
   have v:=U.row q l
   have h22:(22<cs.length)=True:=eq_true (by omega)
   refine qK (qf (by decide) ?_)
   simp only[go_sem,t0,v,h22,hc22]
   refine qK (jD ?_)
   refine zMa [_,_,_,_,_,_,_,_,_,_,_,_,_,_,_,_,_,_,_,_,_,_,_,_,_,_,_,_,_,_] _ rfl rfl [.res] 1 [(0,0,[]),(1,0,[]),(2,0,[]),(3,0,[]),(4,0,[]),(5,0,[]),(6,0,[]),(7,0,[]),(8,0,[]),(9,0,[]),(10,0,[]),(11,0,[]),(12,0,[]),(13,0,[]),(14,0,[]),(15,0,[]),(16,0,[]),(17,0,[]),(18,0,[]),(19,0,[]),(20,0,[]),(21,0,[]),(22,0,[]),(23,0,[]),(24,0,[]),(25,0,[]),(26,0,[]),(27,0,[]),(28,0,[]),(29,0,[])] rfl (by decide) (by decide) (by decide) (by decide) ?_
   simp only[go_sem,t0,t1]
   have u:=U.app (M:=[.box 3 [i64 1],.row 109 1 [[.ptr j 17],[.ptr j 18],[.ptr j 19],[.ptr j 20],[.ptr j 21],[.ptr H.length 0],[.ptr j 23],[.ptr j 24],[.ptr j 25]] 0]) (zr rfl (zG rfl))
   obtain⟨G,hG⟩:∃G,G=H++[Ob.box 3 [i64 1],.row 109 1 [[.ptr j 17],[.ptr j 18],[.ptr j 19],[.ptr j 20],[.ptr j 21],[.ptr H.length 0],[.ptr j 23],[.ptr j 24],[.ptr j 25]] 0]:=⟨_,rfl⟩
   have ψ:=U.len
   have φ:G[H.length]? =some (.box 3 [i64 1]):=by rw[hG,zM rfl];rfl
   have hgz:SlOf G (.tl (H.length+1) 0) 1 ([(j,17),(j,18),(j,19),(j,20),(j,21),(H.length,0),(j,23),(j,24),(j,25)].map λp=>[.ptr p.1 p.2]):=yW (ty:=109) (by rw[hG,zK (k:=1) rfl];rfl)
   rw[<-hG] at u
   rw[<-hG]
   have O:H.length≠j:=by omega
   have hmi:H.length≠i:=by omega
   clear hG
   refine wS (zWa u q l E ζ S (by omega) _ [(j,17),(j,18),(j,19),(j,20),(j,21),(H.length,0),(j,23),(j,24),(j,25)] hgz (λp N=>by
    simp only[zE,List.not_mem_nil,or_false] at N
    rcases N with rfl|rfl|rfl|rfl|rfl|rfl|rfl|rfl|rfl
    ·exact .inl ⟨rfl,by show 17<27;decide⟩
    ·exact .inl ⟨rfl,by show 18<27;decide⟩
    ·exact .inl ⟨rfl,by show 19<27;decide⟩
    ·exact .inl ⟨rfl,by show 20<27;decide⟩
    ·exact .inl ⟨rfl,by show 21<27;decide⟩
    ·exact .inr ⟨ψ,_,_,φ,Nat.zero_lt_one⟩
    ·exact .inl ⟨rfl,by show 23<27;decide⟩
    ·exact .inl ⟨rfl,by show 24<27;decide⟩
    ·exact .inl ⟨rfl,by show 25<27;decide⟩) (by simp) (by show 9<1048576;decide)) ?_ ?_
   rotate_left
   ·rintro ch h' ⟨rfl,h1,F⟩
    refine⟨rfl,?_,F⟩
    rw[show 26=10+7+9 from rfl,vX,J]
    simp only[Option.bind_some]
    rw[show jm 9 bk=none from h1]
    rfl
   rintro r h' ⟨rfl,ns,b2,F,rfl⟩
   obtain⟨n1,n2,n3,n4,n5,Z,n7,n8,n9,rfl⟩:=xHb (xS F)
   have s:=u.row q l
   obtain⟨c9,X⟩:∃c9,c9=(((((((cs.set 17 (i64 n1)).set 18 (i64 n2)).set 19 (i64 n3)).set 20 (i64 n4)).set 21 (i64 n5)).set 23 (i64 n7)).set 24 (i64 n8)).set 25 (i64 n9):=⟨_,rfl⟩
   have e1:y6 G [(j,17),(j,18),(j,19),(j,20),(j,21),(H.length,0),(j,23),(j,24),(j,25)] [n1,n2,n3,n4,n5,Z,n7,n8,n9]=(G.set j (yQ c9)).set H.length (.box 3 [i64 Z]):=by
    show yZ (yZ (yZ (yZ (yZ (yZ (yZ (yZ (yZ G (j,17) n1) (j,18) n2) (j,19) n3) (j,20) n4) (j,21) n5) (H.length,0) Z) (j,23) n7) (j,24) n8) (j,25) n9=_
    rw[vh (p:=(j,17)) s,y9a s,y9a s,y9a s,y9a s,vh (p:=(H.length,0)) (ty:=3) (cs:=[i64 1]) (by rw[zc (Ne.symm O)];exact φ),Kya s O,Kya s O,Kya s O,X]
    rfl
   rw[e1]
   have k3:=((u.setj q l c9).setL (m:=H.length) ψ (o:= .box 3 [i64 Z]) rfl).seti E b2
   obtain⟨G3,γ⟩:∃G3,G3=((G.set j (yQ c9)).set H.length (.box 3 [i64 Z])).set i (we (.sl 1 (b2.map qX))):=⟨_,rfl⟩
   have hg3:G3[H.length]? =some (.box 3 [i64 Z]):=by
    rw[γ,zc (Ne.symm hmi)]
    exact zq (by rw[zc (Ne.symm O)];exact φ)
   rw[<-γ] at k3
   rw[<-γ]
   clear γ
   have ρ:=k3.row q l
   have h9l:c9.length=27:=by rw[X];simp only[zz];exact ζ
   have Y:=W0 (cs:=c9) (o:=22) (x:=i64 (IntKind.wrap .i64 (Z - 1))) (by omega)
   simp only[go_sem]
   refine qK (qn _ (by decide) ?_)
   simp only[go_sem,t0,ρ,hg3,Y]
   refine⟨.tup [],by simp only[go_sem],.inl ⟨rfl,P++y,bk,n1,n2,n3,n4,n5,Z,n7,n8,n9,b2,J,F,?_⟩⟩
   have k4:=k3.setj q l (c9.set 22 (i64 (IntKind.wrap .i64 (Z - 1))))
   rw[X,K] at k4
   rw[X,K]
   exact k4
open Go.RowKit
theorem WE{w:World}{b:Nat}{x v:Value}{ty:TypeId}(h:w.heap[b]? =some (.cells #[x] ty (0,0))):w.setCell ⟨b,0,none⟩ v=w.setRow b #[v]:=by
 unfold World.setCell World.setRow
 have c:=(qx.1 h).1
 have a:=(qx.1 h).2
 congr 1
 apply Array.ext
 ·simp
 ·intro j f d
  rw[Array.getElem_modify,Array.getElem_modify]
  by_cases e:b=j
  ·subst e
   simp[a]
  ·rw[if_neg e,if_neg e]
theorem w8a(p q:Value)(w:World):
  CallsD Tryz.prog 47 #[p,q] .returning w λe b w'=>e= .returned (.tuple #[])/\b= .returning/\w'=w:=by
 refine callsD_of_wpS Tryz.func47 rfl λc cs a=>?_
 apply wpS_seq
 apply wpS_region
 simp[wpOpsS,go_sem,recoverD,a,Tryz.ntmps47,Exit.thenS]
 refine wpS_of_wp ?_
 go_wp2
 refine⟨rfl,_,rfl,.tuple #[],by simp[results,Tryz.results47],rfl,?_,rfl⟩
 exact a
noncomputable def readRest:Code:=match Tryz.f16.body with
 | some (.seq _ (.seq _ c))=>c
 | _=> .skip
abbrev XK(h:List Ob):List Ob:=h++[.box 32 [.v (.slice none 0 0)],.box 37 [i64 0]]
abbrev Zaa(h:List Ob)(x:AV):Env:=upd (upd (upd (nth [x]) 2 (.ptr h.length 0)) 3 (.ptr (h.length+1) 0)) 7 (.fn (.func 47) [] [.ptr h.length 0,.ptr (h.length+1) 0])
def jFb(h:List Ob)(R:AV->List Ob->Prop)(b:Prop):jF
 | .normal,T,h' | .ret,T,h'=>∃r,Z5 Tryz.prog T h' [.cell 2 32,.cell 3 37]=some r/\R r h'
 | .panic a,T,h'=>a=[Kk]/\b/\T 2= .ptr h.length 0/\T 3= .ptr (h.length+1) 0/\(∃y,h'[h.length]? =some (.box 32 [y]))/\(∃z,h'[h.length+1]? =some (.box 37 [z]))/\∃L,h'=h++L
 | _,_,_=>False
set_option maxHeartbeats 4000000 in
theorem vla(h:List Ob)(x:AV)(R:AV->List Ob->Prop)(RP:Prop)(hex:∃r h',R r h'/\ResK h h')(k:∀B,AWp Tryz.prog 48 B readRest (jFb h R RP) (Zaa h x) (XK h)):
  ACalls Tryz.prog 16 [x] h λr h'=>R r h'∨(RP/\r= .tup [.v (.slice none 0 0),i64 200]/\h'=h):=by
 refine⟨by kernel_rfl,(let ⟨r,h',q1,q2⟩:=hex;⟨r,h',.inl q1,q2⟩),λφ hu B w g vs hh hB A=>?_⟩
 have X:=vB A
 have ρ:vs.length=1:=by rw[<-X];rfl
 refine calls_of_wp_defers (fn:=Tryz.f16) (c:= .seq _ (.seq _ readRest)) rfl rfl ?_
 have P:Rel 48 ⟨B,[]⟩ w g (fill φ h) { tmps:=vs.toArray++Array.replicate (Tryz.f16.ntmps - vs.toArray.size) undef,defers:=[] } (nth [x]):=by
  refine⟨hh,hB,λi=>?_,rfl,(by simp[ρ]<;>rfl)⟩
  by_cases hi:i<1
  ·obtain⟨u,e1,e2⟩:=wg A i hi
   have:(vs.toArray++Array.replicate (Tryz.f16.ntmps - vs.toArray.size) undef).getD i undef=u:=by
    rw[zt,Array.getElem?_append_left (by simp;omega)]
    simp[e1]
   simp only[this]
   exact e2
  ·rw[WU (by show 1<=i;omega)]
   trivial
 refine wp_seq (wp_mono (qn (N:=48) (B:=⟨B,[]⟩) (Q:=λe T' h'=>e= .normal/\T'=upd (upd (nth [x]) 2 (.ptr h.length 0)) 3 (.ptr (h.length+1) 0)/\h'=XK h) _ (by decide) (by
  simp only[go_sem]) φ hu w g _ P) λe a1 G ⟨T1,h1,⟨q1,q2,q3⟩,S,σ,m,V⟩=>?_)
 subst q1 q2 q3
 have hu1:Upto φ (XK h).length:=hu.mono (by rw[ze];exact Nat.le_add_right _ _)
 refine wp_seq ?_
 have hd0:(XK h)[h.length]? =some (.box 32 [.v (.slice none 0 0)]):=by rw[zM rfl];rfl
 have hd1:(XK h)[h.length+1]? =some (.box 37 [i64 0]):=by rw[zK (k:=1) rfl];rfl
 have p2:AR (ctx G S (fill φ (XK h))) (.ptr h.length 0) (a1.tmps.getD 2 undef):=m.t 2
 have p3:AR (ctx G S (fill φ (XK h))) (.ptr (h.length+1) 0) (a1.tmps.getD 3 undef):=m.t 3
 obtain⟨q,α⟩:∃q,q=a1.tmps.getD 2 undef:=⟨_,rfl⟩
 obtain⟨p,δ⟩:∃p,p=a1.tmps.getD 3 undef:=⟨_,rfl⟩
 rw[<-α] at p2
 rw[<-δ] at p3
 have v2:a1.eval (.tmp 2)=q:=by rw[α];simp[Act.eval]
 have v3:a1.eval (.tmp 3)=p:=by rw[δ];simp[Act.eval]
 have hmf:∀(fn:Fn) (first cap:Array Value) (w:World),(Instr.makeFunc fn first cap).run Tryz.prog w= .ok (.func fn first cap) w:=λ_ _ _ _=>rfl
 refine(wpIn_wide (n:=0)).1 (wpIn_region_list ?_)
 unfold wpListIn
 rw[if_pos (by simp[Region.wanted])]
 refine xQ 0 (kT (w':=G) (v:= .func (.func 47) #[] #[q,p]) (by simp[execOp,v2,v3,hmf]) ?_)
 obtain⟨a2,J⟩:∃a2:Act,a2=a1.put (some 7) (.func (.func 47) #[] #[q,p]):=⟨_,rfl⟩
 have W:Rel 48 ⟨B,[]⟩ G S (fill φ (XK h)) a2 (Zaa h x):=by
  rw[J]
  exact xU (o:=⟨some 7,.build 0 #[],0, "", #[],none⟩) m (Good.refl m.ok m.hB) (x:= .fn (.func 47) [] [.ptr h.length 0,.ptr (h.length+1) 0]) ⟨#[], #[q,p],rfl,rfl,q,[p],rfl,p2,p,[],rfl,p3,rfl⟩ rfl
 have v7:a2.eval (.tmp 7)= .func (.func 47) #[] #[q,p]:=by
  have:7<a1.tmps.size:=by rw[m.n];decide
  rw[J]
  simp[Act.eval,Act.put,this]
 rw[<-J]
 unfold wpListIn
 rw[if_pos (by simp[Region.wanted])]
 refine xQ 0 ?_
 unfold Oper.wp
 have M:(execOp a2.eval { dst:=none,op:=Op.defer { callee:=Callee.value (Operand.tmp 7),args:= #[],argTypes:= #[] },type:=0,pos:= "row.go:145",after:= #[{ on:=0,ground:=Ground.data }],guard:=none }).run Tryz.prog G= .ok (.defer { target:= .fn (.func 47) #[q,p],args:= #[] }) G:=by
  simp[execOp,resolve,v7,Deferred.ofValue]
 rw[M]
 obtain⟨d,hd⟩:∃d:Deferred,d={ target:= .fn (.func 47) #[q,p],args:= #[] }:=⟨_,rfl⟩
 have r3:Rel 48 ⟨B,[d]⟩ G S (fill φ (XK h)) { a2 with defers:=d::a2.defers } (Zaa h x):=⟨W.ok,W.hB,W.t,by show d::a2.defers=[d];rw[W.d],W.n⟩
 rw[<-hd]
 show Code.wp Tryz.prog readRest _ { a2 with defers:=d::a2.defers } G
 refine wp_mono (k ⟨B,[d]⟩ φ hu1 G S _ r3) λe a4 C ⟨T4,h4,q4,j,ek4,F,a⟩=>?_
 have fin:(∃r,Z5 Tryz.prog T4 h4 [.cell 2 32,.cell 3 37]=some r/\R r h4)->bodyPostD Tryz.prog Tryz.f16 (λe w'=>∃v r h' g',e=Ending.returned v/\(λr h'=>R r h'∨RP/\r=AV.tup [AV.v (Value.slice none 0 0),i64 200]/\h'=h) r h'/\ResK h h'/\Good B w g (fill φ h) w' g' (fill φ h')/\AR (ctx w' g' (fill φ h')) r v) .ret a4 C:=by
  rintro ⟨r,q5,q6⟩
  obtain⟨v,z1,z2⟩:=WV (fn:=Tryz.f16) a.ok a.size F.t (V4 q5)
  show Leaves _ _ _ _ a4.defers .returning C
  rw[F.d]
  show Leaves _ _ _ _ [d] .returning C
  rw[hd]
  refine leaves_cons (f:=47) (args:= #[q,p]) (by simp) (by simp[go_sem]) ?_
  refine(w8a _ _ _).mono ?_
  rintro e u' w' ⟨rfl,rfl,rfl⟩
  exact⟨v,z1,v,r,h4,j,rfl,.inl q6,σ.trans ek4,V.trans a,z2⟩
 cases e with
 | normal=>exact fin q4
 | ret=>exact fin q4
 | panic ch=>
   obtain⟨rfl,μ,t2,t3,⟨y,hy⟩,⟨z,hz⟩,L,hL⟩:=q4
   have y0:=qy (φ:=φ) hy rfl
   have z0:=qy (φ:=φ) hz rfl
   obtain⟨_,c0,K,u0,l0,f1,_,f2⟩:=a.ok.ok _ _ y0
   obtain⟨_,c1,T,u1,l1,f3,_,f4⟩:=a.ok.ok _ _ z0
   have f2:l0=[]:=f2
   have f4:l1=[]:=f4
   subst f2 f4
   have e0:c0= #[u0]:=Array.ext' (by rw[f1])
   have e1:c1= #[u1]:=Array.ext' (by rw[f3])
   subst e0 e1
   have K:C.heap[j.β h.length]? =some (.cells #[u0] 32 (0,0)):=K
   have T:C.heap[j.β (h.length+1)]? =some (.cells #[u1] 37 (0,0)):=T
   have hne:j.β (h.length+1)≠j.β h.length:=λe=>a.ok.apart h.length (h.length+1) _ _ (j.β h.length) (by omega) y0 z0 rfl (by rw[<-e];rfl)
   have v2':q= .pointer (some ⟨j.β h.length,0,none⟩):=by
    rw[p2.2]
    exact congrArg (λb=>Value.pointer (some ⟨b,0,none⟩)) (a.le.β h.length p2.1).symm
   have v3':p= .pointer (some ⟨j.β (h.length+1),0,none⟩):=by
    rw[p3.2]
    exact congrArg (λb=>Value.pointer (some ⟨b,0,none⟩)) (a.le.β (h.length+1) p3.1).symm
   show Leaves _ _ _ _ a4.defers (.panicking [Kk]) C
   rw[F.d]
   show Leaves _ _ _ _ [d] (.panicking [Kk]) C
   rw[hd,v2',v3']
   refine leaves_cons (f:=47) (args:= #[.pointer (some ⟨j.β h.length,0,none⟩),.pointer (some ⟨j.β (h.length+1),0,none⟩)]) (by simp) (by simp[go_sem]) ?_
   refine(vaa (j.β h.length) (j.β (h.length+1)) u0 u1 C (qx.1 K).1 (qx.1 T).1 hne (by unfold World.cell?;rw[K];rfl) (by unfold World.cell?;rw[T];rfl) (by unfold World.frozen?;rw[K];rfl) (by unfold World.frozen?;rw[T];rfl)).mono ?_
   rintro e u' s ⟨rfl,rfl,o,rfl⟩
   have t1:=W9 a.ok a.size y0 (cs':=[.v (.slice none 0 0)]) (vs':= #[.slice none 0 0]) ⟨_,[],rfl,rfl,rfl⟩
   rw[<-jc rfl, <-WE K] at t1
   have Z:(h4.set h.length (.box 32 [.v (.slice none 0 0)]))[h.length+1]? =some (.box 37 [z]):=by rw[zc (by omega)];exact hz
   have U:=qy (φ:=φ) Z rfl
   obtain⟨_,c2,m2,u2,l2,f5,_,f6⟩:=t1.ok.ok _ _ U
   have f6:l2=[]:=f6
   subst f6
   have e2:c2= #[u2]:=Array.ext' (by rw[f5])
   subst e2
   have m2:(C.setCell ⟨j.β h.length,0,none⟩ (.slice none 0 0)).heap[j.β (h.length+1)]? =some (.cells #[u2] 37 (0,0)):=m2
   have l:=W9 t1.ok t1.size U (cs':=[i64 200]) (vs':= #[.int .i64 200]) ⟨_,[],rfl,rfl,rfl⟩
   rw[<-jc rfl, <-WE m2] at l
   obtain⟨s,O⟩:∃s,s=(C.setCell ⟨j.β h.length,0,none⟩ (.slice none 0 0)).setCell ⟨j.β (h.length+1),0,none⟩ (.int .i64 200):=⟨_,rfl⟩
   rw[<-O] at l
   rw[<-O]
   obtain⟨D,H⟩:∃D,D=(h4.set h.length (.box 32 [.v (.slice none 0 0)])).set (h.length+1) (.box 37 [i64 200]):=⟨_,rfl⟩
   rw[<-H] at l
   have E:Below s.heap.size s (s.alloc o):=(Below.refl _ s).alloc (zn _) o
   have t3':Good B s j (fill φ D) (s.alloc o) j (fill φ D):=⟨l.ok.ext E,Le.ext E,E.mono l.size,Nat.le_trans l.size E.size⟩
   have tg:=(t1.trans l).trans t3'
   have g6:D[h.length]? =some (.box 32 [.v (.slice none 0 0)]):=by rw[H,zc (by omega)];exact zq hy
   have g7:D[h.length+1]? =some (.box 37 [i64 200]):=by rw[H];exact zq Z
   have Y:Z5 Tryz.prog T4 D [.cell 2 32,.cell 3 37]=some (.tup [.v (.slice none 0 0),i64 200]):=by
    simp only[go_sem,t2,t3,g6,g7]
   have I:∃L6,D=h++L6:=⟨_,by rw[H,hL,zL _ _ (zn _),zL _ _ (by omega)]⟩
   obtain⟨L6,I⟩:=I
   have ht4:wF (ctx (s.alloc o) j (fill φ D)) T4 a4:=λi=>AR.le tg.le _ _ (F.t i)
   obtain⟨v,z1,z2⟩:=WV (fn:=Tryz.f16) tg.ok tg.size ht4 (V4 Y)
   have hG:=(V.trans a).trans tg
   rw[I,jC hu] at hG z2
   exact⟨v,z1,v,_,h,j,rfl,.inr ⟨μ,rfl,rfl⟩,.refl,hG.drop rfl (by have:=hh.ids;exact this),AR.less (xD (s.alloc o) j (fill φ h) L6) _ _ (by rfl) z2⟩
 | _=>exact q4.elim
end Go.Proofs.YtigdlmpjijhpaaaGreat.Ax
namespace Go.Proofs.YtigdlmpjijhpaaaGreat.Ax
open Go Go.RowKit
def FrzTo(h L:List Ob)(x x':AV):Prop:=∀(B:Nat) (w:World) (g:Gh) (a:List Ob),a.length=h.length->HOk B w g (a++L)->∀u,AR (ctx w g (a++L)) x u->AR (ctx w g a) x' u
def FrzL(h L:List Ob)(l l':List AV):Prop:=∀(B:Nat) (w:World) (g:Gh) (a:List Ob),a.length=h.length->HOk B w g (a++L)->∀us,ARs (ctx w g (a++L)) l us->ARs (ctx w g a) l' us
theorem FrzTo.lt{h L:List Ob}{x:AV}(b:x.lt h.length=true):FrzTo h L x x:=λB w g c e d u a=>AR.less (xD w g c L) _ _ (by rw[e];exact b) a
theorem FrzTo.new{h L:List Ob}{x:AV}{e:Nat}{rows:List (List AV)}(d:0<e)(b:qQ h.length rows=true)(n:New h e x rows L):FrzTo h L x (.sl e rows):=λB w g i a f u c=>
 QT f d c (n _ a) (λid hid=>by rw[a];exact n.root id hid) (by rw[a];exact b)
theorem FrzL.nil{h L:List Ob}:FrzL h L [] []:=λ_ _ _ _ _ _ _ h=>h
theorem FrzL.cons{h L:List Ob}{x x':AV}{l l':List AV}(k:FrzTo h L x x')(q:FrzL h L l l'):FrzL h L (x::l) (x'::l'):=λB w g a e b us ⟨v,r,c,f,d⟩=>⟨v,r,c,k B w g a e b v f,q B w g a e b r d⟩
theorem FrzL.lt{h L:List Ob}:∀ {l:List AV},qz h.length l=true->FrzL h L l l
 | [],_=> .nil
 | a::l,b=>by
   rw[qz,zl] at b
   exact .cons (.lt b.1) (FrzL.lt b.2)
theorem FrzTo.tup{h L:List Ob}{l l':List AV}(k:FrzL h L l l'):FrzTo h L (.tup l) (.tup l'):=λB w g b e d u ⟨vs,c,a⟩=>⟨vs,c,k B w g b e d _ a⟩
theorem qna{P:Program}{f:FuncId}{ar:List AV}{h:List Ob}{e:AV}(c:ACalls P f ar h λr h'=>∃L,h'=h++L/\NoRes L/\FrzTo h L r e):ACalls P f ar h λr h'=>r=e/\h'=h:=by
 refine⟨c.1,⟨_,_,⟨rfl,rfl⟩,.refl⟩,λφ i B w g vs k hB a=>?_⟩
 refine(c.2.2 φ i B w g vs k hB a).mono λn w' ⟨v,r,h',g',m,⟨L,l,_,n1⟩,_,d,j⟩=>?_
 subst l
 rw[jC i] at d j
 have b:(fill φ h).length=h.length:=q9
 exact⟨_,_,h,g',m,⟨rfl,rfl⟩,.refl,d.drop rfl (by have:=k.ids;exact this),n1 B w' g' _ b d.ok _ j⟩
section
variable {P:Program} {N:Nat} {Q:jF} {T:Env} {h:List Ob} {c:Code}
theorem xea{x:Ctx}:∀ {a b:List AV} {us:List Value},ARs x (a++b) us->∃vs c,us=vs++c/\ARs x a vs/\ARs x b c
 | [],b,us,k=>⟨[],us,rfl,rfl,k⟩
 | y::a,b,us,⟨v,r,f,d,e⟩=>by
   obtain⟨vs,c,g,i,h⟩:=xea (a:=a) e
   exact⟨v::vs,c,by rw[f,g];rfl,⟨v,vs,rfl,d,i⟩,h⟩
theorem zYa{B:Bs}{id st j:Nat}{ty o:TypeId}{e:Nat}{a:List AV}{xs:List (List AV)}(l:h[j]? =some (.box o (a++[.tl id st])))(f:h[id]? =some (.row ty e xs st))(k:AWp P N B c Q T ((h.set id .gone).set j (.box o (a++[.sl e xs])))):AWp P N B c Q T h:=
 jva k λφ G w g H r=>by
  have m:id≠j:=λe=>by rw[e,l] at f;cases f
  obtain⟨k1,k2⟩:=Ju r.ok r.hB (qy f rfl)
  rw[<-jc rfl] at k1 k2
  obtain⟨_,vs,E,A⟩:=r.ok.ok _ _ (qy (φ:=φ) l rfl)
  obtain⟨us,F,z,x,C⟩:=xea A
  obtain⟨u,q,y,v,s⟩:=C
  have b:(h.set id .gone)[j]? =some (.box o (a++[.tl id st])):=by rw[zc m];exact l
  have D:ARs (ctx w g (fill φ (h.set id .gone))) (a++[.sl e xs]) vs.toList:=by
   rw[z]
   exact xj (ARs.le k1.le _ _ x) ⟨u,q,y,k2 _ v,s⟩
  have t:=VX k1.ok k1.size (qy (φ:=φ) b rfl) (vs:=vs.toList) ⟨vs,E,rfl⟩ D
  rw[<-jc rfl] at t
  have p:=k1.trans t
  exact Vp ((qj f rfl).trans (qj b rfl)) p (λi=>AR.le p.le _ _ (r.t i)) r.d r.n
theorem vma{B:Bs}{j:Nat}{f:TypeId}(e:Nat){a:List AV}(b:h[j]? =some (.box f (a++[.v (.slice none 0 0)])))(k:AWp P N B c Q T (h.set j (.box f (a++[.sl e []])))):AWp P N B c Q T h:=
 jva k λφ D w g E r=>by
  obtain⟨_,vs,A,x⟩:=r.ok.ok _ _ (qy (φ:=φ) b rfl)
  obtain⟨us,C,s,o,y⟩:=xea x
  obtain⟨u,q,p,m,l⟩:=y
  have z:ARs (ctx w g (fill φ h)) (a++[.sl e []]) vs.toList:=by
   rw[s]
   exact xj o ⟨u,q,p,WeakV.nil e _ u m,l⟩
  have t:=VX r.ok r.hB (qy (φ:=φ) b rfl) (vs:=vs.toList) ⟨vs,A,rfl⟩ z
  rw[<-jc rfl] at t
  exact Vp (qj b rfl) t (λi=>AR.le t.le _ _ (r.t i)) r.d r.n
end
end Go.Proofs.YtigdlmpjijhpaaaGreat.Ax
namespace Go.Proofs.YtigdlmpjijhpaaaGreat.Ax
open Go Go.Proofs
set_option maxRecDepth 100000
theorem Vj{h h':List Ob}(k:∀(j:Nat) (o:Ob),h[j]? =some o->h'[j]? =some o):∃L,h'=h++L:=by
 refine⟨h'.drop h.length,?_⟩
 apply qP
 intro j
 rcases Nat.lt_or_ge j h.length with a|a
 ·rw[zH a,zi a]
  exact k j _ (zi a)
 ·rw[zQ a,List.getElem?_drop,show h.length+(j - h.length)=j by omega]
theorem ko{l:List Int}{n:Nat}(h:l.length=n+1):∃x r,l=x::r/\r.length=n:=by
 cases l with
 | nil=>simp at h
 | cons x r=>exact⟨x,r,rfl,by simpa using h⟩
set_option maxHeartbeats 1000000 in
theorem WFa{ns:List Int}(P:ns.length=17)(a b c d e t f g k:Int)(r:AV):zDb (setR (kn r) 0 ns) a b c d e t f g k=xO (wT (ns++[a,b,c,d,e,t,f,g,k])) r:=by
 obtain⟨R,Y,rfl,h0⟩:=ko P
 obtain⟨x1,r1,rfl,u⟩:=ko h0
 obtain⟨x2,r2,rfl,F⟩:=ko u
 obtain⟨x3,Z,rfl,y⟩:=ko F
 obtain⟨X,T,rfl,I⟩:=ko y
 obtain⟨x5,U,rfl,z⟩:=ko I
 obtain⟨S,W,rfl,s⟩:=ko z
 obtain⟨V,r7,rfl,J⟩:=ko s
 obtain⟨Q,r8,rfl,G⟩:=ko J
 obtain⟨x9,r9,rfl,O⟩:=ko G
 obtain⟨E,w,rfl,p⟩:=ko O
 obtain⟨H,M,rfl,q⟩:=ko p
 obtain⟨C,B,rfl,l⟩:=ko q
 obtain⟨K,x,rfl,n⟩:=ko l
 obtain⟨A,N,rfl,o⟩:=ko n
 obtain⟨D,v,rfl,m⟩:=ko o
 obtain⟨L,h,rfl,j⟩:=ko m
 have i:h=[]:=zC j
 subst i
 simp[zDb,setR,kn,wT]
theorem xIb{l:List Int}(h:l.length=2):∃a b,l=[a,b]:=by
 match l,h with
 | [a,b],_=>exact⟨a,b,rfl⟩
theorem jja:∀ {k:Nat} {l:List Int} {x y:Int},l.length=2*k->flgs (l++[x,y])=flgs l++[⟨x,y⟩]
 | 0,[],_,_,_=>rfl
 | k+1,a::b::l,x,y,h=>by
   show(⟨a,b⟩:Flg)::flgs (l++[x,y])=⟨a,b⟩::(flgs l++[⟨x,y⟩])
   rw[jja (k:=k) (by simp only[List.length_cons] at h;omega)]
def Yba(h:List Ob)(b:List Int)(r:AV)(h':List Ob):Prop:=∃W L,wU b=some W/\h'=h++L/\NoRes L/\FrzTo h L r (.tup [.sl 27 (W.map xP),i64 0])
set_option maxHeartbeats 4000000 in
theorem zEb(h:List Ob)(x:AV)(b:List Int)(hx:SlOf h x 1 (b.map qX))(hb:By b)(hl:b.length<1073741824)(B:Bs):
  AWp Tryz.prog 48 B readRest (jFb h (Yba h b) (wU b=none)) (Zaa h x) (XK h):=by
 have hxo:=hx.one
 have hxc:=hx.cells
 show AWp Tryz.prog 48 B (.seq _ (.seq (.seq _ (.block _ (.loop _))) _)) _ _ _
 refine qf (by decide) ?_
 simp only[go_sem,hxo,hxc]
 refine qK (jD (jD ?_))
 refine vja [] _ [_] rfl rfl (by decide) ?_
 simp only[go_sem]
 have hi0:(h++[Ob.box 32 [.v (.slice none 0 0)],.box 37 [i64 0],we x])[h.length+2]? =some (we x):=by rw[zK (k:=2) rfl];rfl
 have hbx0:(h++[Ob.box 32 [.v (.slice none 0 0)],.box 37 [i64 0],we x])[h.length]? =some (.box 32 [.v (.slice none 0 0)]):=by rw[zM rfl];rfl
 have hbx1:(h++[Ob.box 32 [.v (.slice none 0 0)],.box 37 [i64 0],we x])[h.length+1]? =some (.box 37 [i64 0]):=by rw[zK (k:=1) rfl];rfl
 refine wS (Yaa _ (h.length+2) x b hi0 (hx.app _) hb (by omega)) ?_ ?_
 rotate_left
 ·rintro ch h' ⟨rfl,h1,h2⟩
  refine⟨rfl,by unfold wU;rw[h1];rfl,by simp only[go_sem],by simp only[go_sem],⟨_,h2 _ _ (by omega) hbx0⟩,⟨_,h2 _ _ (by omega) hbx1⟩,Vj λj o O=>h2 j o ?_ (zf O)⟩
  have:=(zd.1 O).1
  omega
 rintro r h' ⟨n,b1,hm,rfl,rfl⟩
 obtain⟨hbe,hn64,hb1,hnl⟩:=Vi hb hm
 obtain⟨M,rfl⟩:=Int.eq_ofNat_of_zero_le hn64.1
 have hb1l:b1.length<=b.length:=by rw[hbe,ze];omega
 clear hbe
 obtain⟨H0,κ⟩:∃H0,H0=h++[Ob.box 32 [.v (.slice none 0 0)],.box 37 [i64 0],we (.sl 1 (b1.map qX))]:=⟨_,rfl⟩
 have u:(h++[Ob.box 32 [.v (.slice none 0 0)],.box 37 [i64 0],we x]).set (h.length+2) (we (.sl 1 (b1.map qX)))=H0:=by
  rw[κ,zL _ _ (by omega),show h.length+2 - h.length=2 by omega]
  rfl
 rw[u]
 simp only[go_sem]
 have k0:H0[h.length]? =some (.box 32 [.v (.slice none 0 0)]):=by rw[κ,zM rfl];rfl
 have k1:H0[h.length+1]? =some (.box 37 [i64 0]):=by rw[κ,zK (k:=1) rfl];rfl
 have k2:H0[h.length+2]? =some (we (.sl 1 (b1.map qX))):=by rw[κ,zK (k:=2) rfl];rfl
 have hp0:Pre h H0:=⟨_,κ,zr rfl (zr rfl (zG rfl))⟩
 refine qK (xE (Zt (λm T H=>∃(k:Nat) (W:List (RowV × List Flg)) (bk:List Int) (yv:AV),k<=M/\jp k b1=some (W,bk)/\By bk/\bk.length<=b1.length/\Pre h H/\H[h.length]? =some (.box 32 [yv])/\OwnS h H 45 27 yv (W.map λq=>yX q.1++[.sl 2 (q.2.map xy)])/\H[h.length+1]? =some (.box 37 [i64 0])/\H[h.length+2]? =some (we (.sl 1 (bk.map qX)))/\
  T 2= .ptr h.length 0/\T 3= .ptr (h.length+1) 0/\T 4= .ptr (h.length+2) 0/\T 11=i64 M/\T 12=i64 k/\m=M - k) M
  ⟨0,[],b1,.v (.slice none 0 0),by omega,rfl,hb1,zn _,hp0,k0,.inl ⟨rfl,rfl⟩,k1,k2,by simp only[go_sem],by simp only[go_sem],by simp only[go_sem],by simp only[go_sem],by(simp only[go_sem]<;>rfl),rfl⟩ ?_))
 clear k0 k1 k2 hp0 u hbx0 hbx1 hi0
 rintro m T H ⟨k,W,bk,yv,hk,Z,hbk,hbl,hp,k0,δ,k1,k2,t2,t3,t4,z,A,rfl⟩
 refine qf (by decide) ?_
 simp only[go_sem,z,A]
 refine qK (qf (by decide) ?_)
 simp only[go_sem]
 refine ways (λe=>?_) (λe=>?_)
 ·have hlt:=dlt e
  have hHl:h.length+2<H.length:=(zd.1 k2).1
  simp only[go_sem]
  refine qK (jD (xE ?_))
  refine qf (by decide) ?_
  simp only[go_sem]
  refine qK (jD ?_)
  refine Qx [_] _ rfl rfl (by decide) ?_
  simp only[go_sem,t4]
  have c0:(H++[yQ (kn (.v (.slice none 0 0)))])[H.length]? =some (yQ (kn (.v (.slice none 0 0)))):=by rw[zM rfl];rfl
  have c2:(H++[yQ (kn (.v (.slice none 0 0)))])[h.length+2]? =some (we (.sl 1 (bk.map qX))):=zf k2
  refine wS (WEa _ (h.length+2) H.length bk _ (by omega) c2 c0 hbk (by omega)) ?_ ?_
  rotate_left
  ·rintro ch h' ⟨rfl,h1,h2⟩
   have l:FrR H.length (h.length+2) H h':=λm o z1 z2 z3=>h2 m o z1 z2 (zf z3)
   obtain⟨L,hL,_⟩:=hp
   refine⟨rfl,Ja hm (yz Z (qka h1) hlt),by simp only[go_sem,t2],by simp only[go_sem,t3],⟨_,l _ _ (by omega) (by omega) k0⟩,⟨_,l _ _ (by omega) (by omega) k1⟩,Vj λj o O=>l j o ?_ ?_ (by rw[hL];exact zf O)⟩
   ·have:=(zd.1 O).1
    omega
   ·have:=(zd.1 O).1
    omega
  rintro r h' ⟨rfl,ns,bq,a,b',c,d,e',t,f,g,k9,rest,η,hn9,ε⟩
  rw[WFa (xS η)] at ε
  have D:jm 26 bk=some (ns++[a,b',c,d,e',t,f,g,k9],rest):=by
   rw[show 26=17+9 from rfl,vX,η]
   simp only[Option.bind_some,hn9,Option.map_some]
  obtain⟨N26,hN26⟩:∃N26,N26=ns++[a,b',c,d,e',t,f,g,k9]:=⟨_,rfl⟩
  rw[<-hN26] at D ε
  clear hN26 η hn9
  have hre:=ZN hbk D
  have hrl:=Qz hbk D
  simp only[go_sem]
  refine qK (jD (jD ?_))
  refine vja [] _ [_] rfl rfl (by decide) ?_
  simp only[go_sem,t4]
  have S:h.length+2<(H++[yQ (kn (.v (.slice none 0 0)))]).length:=by rw[ze];omega
  have C:H.length<(H++[yQ (kn (.v (.slice none 0 0)))]).length:=by rw[ze];exact Nat.lt_succ_self _
  have N:H.length≠h.length+2:=by omega
  have hfr1:FrR H.length (h.length+2) H h':=λm o z1 z2 z3=>ε.fr m o z1 z2 (zf z3)
  refine wS (Yaa _ (h.length+2) _ rest (ε.eye S) ⟨rfl,λ_=>rfl⟩ hre (by omega)) ?_ ?_
  rotate_left
  ·rintro ch h2 ⟨rfl,h1,h3⟩
   have l:FrR H.length (h.length+2) H h2:=λm o z1 z2 z3=>h3 m o z1 (hfr1 m o z1 z2 z3)
   obtain⟨L,hL,_⟩:=hp
   refine⟨rfl,Ja hm (yz Z (qla D h1) hlt),by simp only[go_sem,t2],by simp only[go_sem,t3],⟨_,l _ _ (by omega) (by omega) k0⟩,⟨_,l _ _ (by omega) (by omega) k1⟩,Vj λj o O=>l j o ?_ ?_ (by rw[hL];exact zf O)⟩
   ·have:=(zd.1 O).1
    omega
   ·have:=(zd.1 O).1
    omega
  rintro r2 h2 ⟨nf,b2,hmf,rfl,rfl⟩
  have U:=ε.seti S b2
  obtain⟨_,hf64,hb2,hfl⟩:=Vi hre hmf
  obtain⟨F,rfl⟩:=Int.eq_ofNat_of_zero_le hf64.1
  simp only[go_sem]
  obtain⟨G,hG⟩:∃G,G=H++[yQ (kn (.v (.slice none 0 0)))]:=⟨_,rfl⟩
  obtain⟨X,hRv⟩:∃X,X=wT N26:=⟨_,rfl⟩
  have hG2:=hG
  simp only[kn] at hG2
  rw[<-hG] at S C
  rw[<-hG2] at U
  rw[<-hRv] at U
  obtain⟨h3,hh3⟩:∃h3,h3=h'.set (h.length+2) (we (.sl 1 (b2.map qX))):=⟨_,rfl⟩
  rw[<-hh3] at U⊢
  clear ε hh3
  have hGl:G.length=H.length+1:=by rw[hG,ze];rfl
  have hb2l:b2.length<=rest.length:=by
   obtain⟨e1,_,_,_⟩:=Vi hre hmf
   rw[e1,ze];omega
  have hFb:F<=b2.length:=by omega
  refine qK (xE (Zt (λm T s=>∃(n:Nat) (V E:List Int) (fv:AV),n<=F/\jm (2*n) b2=some (V,E)/\StR G H.length (h.length+2) (xO X fv) E s/\OwnS G s 105 2 fv ((flgs V).map xy)/\
   T 2= .ptr h.length 0/\T 3= .ptr (h.length+1) 0/\T 4= .ptr (h.length+2) 0/\T 5= .ptr H.length 0/\T 11=i64 M/\T 12=i64 k/\T 16=i64 F/\T 17=i64 n/\m=F - n) F
   ⟨0,[],b2,.v (.slice none 0 0),by omega,rfl,U,.inl ⟨rfl,rfl⟩,by simp only[go_sem,t2],by simp only[go_sem,t3],by simp only[go_sem,t4],by simp only[go_sem],by simp only[go_sem,z],by simp only[go_sem,A],by simp only[go_sem],by(simp only[go_sem]<;>rfl),rfl⟩ ?_))
  clear U t2 t3 t4 z A
  rintro m T s ⟨n,V,E,fv,hn,w,kh,ν,t2,t3,t4,t5,z,A,t16,t17,rfl⟩
  have σ:=ZN hb2 w
  have hbl2:=Qz hb2 w
  refine qf (by decide) ?_
  simp only[go_sem,t16,t17]
  refine qK (qf (by decide) ?_)
  simp only[go_sem]
  refine ways (λe=>?_) (λe=>?_)
  ·have hltn:=dlt e
   simp only[go_sem]
   refine qK (jD (xE ?_))
   refine qf (by decide) ?_
   simp only[go_sem]
   refine qK (jD ?_)
   refine Qx [_,_,_] _ rfl rfl (by decide) ?_
   simp only[go_sem,t4]
   have ξ:=kh.app (M:=[.box 105 [i64 0,i64 0],.row 109 1 [[.ptr s.length 0],[.ptr s.length 1]] 0]) (zr rfl (zG rfl))
   have Y:=ν.app [.box 105 [i64 0,i64 0],.row 109 1 [[.ptr s.length 0],[.ptr s.length 1]] 0]
   have θ:=kh.len
   have P:(s++[Ob.box 105 [i64 0,i64 0],.row 109 1 [[.ptr s.length 0],[.ptr s.length 1]] 0])[s.length]? =some (.box 105 [i64 0,i64 0]):=by rw[zM rfl];rfl
   have hz0:SlOf (s++[Ob.box 105 [i64 0,i64 0],.row 109 1 [[.ptr s.length 0],[.ptr s.length 1]] 0]) (.tl (s.length+1) 0) 1 ([(s.length,0),(s.length,1)].map λp=>[.ptr p.1 p.2]):=yW (ty:=109) (by rw[zK (k:=1) rfl];rfl)
   refine wS (zWa ξ N C S rfl σ (by omega) _ [(s.length,0),(s.length,1)] hz0 (λp hp=>by
    simp only[zE,List.not_mem_nil,or_false] at hp
    rcases hp with rfl|rfl
    ·exact .inr ⟨θ,_,_,P,by show 0<2;decide⟩
    ·exact .inr ⟨θ,_,_,P,by show 1<2;decide⟩) (by simp) (by show 2<1048576;decide)) ?_ ?_
   rotate_left
   ·rintro ch h4 ⟨rfl,h1,h5⟩
    have l:FrR H.length (h.length+2) H h4:=λm o z1 z2 z3=>h5 m o z1 z2 (by rw[hG];exact zf z3)
    obtain⟨L,hL,_⟩:=hp
    have hnone:jm (2*F) b2=none:=by
     have:jm (2*n+2) b2=none:=by rw[vX,w];simp only[Option.bind_some];rw[show jm 2 E=none from h1];rfl
     rw[show 2*F=2*n+2+(2*F - (2*n+2)) by omega]
     exact Xu this
    refine⟨rfl,Ja hm (yz Z (qma D hmf (by rw[Int.toNat_natCast];exact hnone)) hlt),by simp only[go_sem,t2],by simp only[go_sem,t3],⟨_,l _ _ (by omega) (by omega) k0⟩,⟨_,l _ _ (by omega) (by omega) k1⟩,Vj λj o O=>l j o ?_ ?_ (by rw[hL];exact zf O)⟩
    ·have:=(zd.1 O).1
     omega
    ·have:=(zd.1 O).1
     have hHh:h.length<=H.length:=by rw[hL,ze];omega
     omega
   rintro r h4 ⟨rfl,ns2,b3,hn2,rfl⟩
   obtain⟨x,y,rfl⟩:=xIb (xS hn2)
   have hb3:=ZN σ hn2
   have τ:jm (2*(n+1)) b2=some (V++[x,y],b3):=by
    rw[show 2*(n+1)=2*n+2 by omega,vX,w]
    simp only[Option.bind_some]
    rw[show jm 2 E=some ([x,y],b3) from hn2]
    rfl
   have hfsn:flgs (V++[x,y])=flgs V++[⟨x,y⟩]:=jja (xS w)
   obtain⟨K,hK⟩:∃K,K=s++[Ob.box 105 [i64 0,i64 0],.row 109 1 [[.ptr s.length 0],[.ptr s.length 1]] 0]:=⟨_,rfl⟩
   rw[<-hK] at ξ Y P hz0⊢
   have e1:y6 K [(s.length,0),(s.length,1)] [x,y]=K.set s.length (.box 105 [i64 x,i64 y]):=by
    show yZ (yZ K (s.length,0) x) (s.length,1) y=_
    rw[vh (p:=(s.length,0)) P,vh (p:=(s.length,1)) (zq P),zU]
    rfl
   rw[e1]
   have k3:=(ξ.setL θ (o:= .box 105 [i64 x,i64 y]) rfl).seti S b3
   have hli:s.length≠h.length+2:=by omega
   have ι:=(Y.setB (o:= .box 105 [i64 x,i64 y]) P).setB (o:=we (.sl 1 (b3.map qX))) (by rw[zc hli];exact ξ.eye S)
   have ω:((K.set s.length (.box 105 [i64 x,i64 y])).set (h.length+2) (we (.sl 1 (b3.map qX))))[s.length]? =some (.box 105 [i64 x,i64 y]):=by
    rw[zc (by omega)];exact zq P
   obtain⟨J,hJ⟩:∃J,J=(K.set s.length (.box 105 [i64 x,i64 y])).set (h.length+2) (we (.sl 1 (b3.map qX))):=⟨_,rfl⟩
   rw[<-hJ] at k3 ι ω⊢
   clear hJ e1 ξ Y P hz0 hK
   have hrJ:=k3.row N C
   have β:∀M,(J++M)[H.length]? =some (yQ (xO X fv)):=λM=>zf hrJ
   have hfJM:∀M,(J++M)[s.length]? =some (.box 105 [i64 x,i64 y]):=λM=>zf ω
   have hJl:=k3.len
   simp only[go_sem]
   refine qK (qn _ (by decide) ?_)
   rcases ι with⟨rfl,Q⟩|⟨id,st,u1,rfl,u3⟩
   ·simp only[go_sem,t5,hrJ,β,ω]
    refine qK (qn _ (by decide) ?_)
    simp only[go_sem,t17]
    refine⟨F - (n+1),by omega,n+1,V++[x,y],b3,.tl (J.length+1) 0,by omega,τ,(k3.app (zr rfl (zG rfl))).setj N C (xO X (.tl (J.length+1) 0)),?_,t2,t3,t4,t5,z,A,t16,qm (by omega) rfl,rfl⟩
    refine OwnS.setB (.inr ⟨_,0,?_,rfl,?_⟩) (β _)
    ·omega
    ·rw[hfsn,zy,Q,zK (k:=1) rfl];rfl
   ·have ο:∀M,(J++M)[id]? =some (.row 105 2 ((flgs V).map xy) st):=λM=>zf u3
    have ζ:(((flgs V).map xy).length+1)*17<=140737488355328:=by
     rw[zb,(W3 (k:=n) (xS w)).2]
     omega
    have u:∀M o',((J++M).set id o')[H.length]? =some (yQ (xO X (.tl id st))):=λM o'=>by
     rw[zc (by omega)];exact β M
    simp only[go_sem,t5,hrJ,β,ω,ο,ζ,u]
    refine qK (qn _ (by decide) ?_)
    simp only[go_sem,t17]
    refine⟨F - (n+1),by omega,n+1,V++[x,y],b3,.tl id (st+1),by omega,τ,((k3.app (zG rfl)).setL u1 rfl).setj N C (xO X (.tl id (st+1))),?_,t2,t3,t4,t5,z,A,t16,qm (by omega) rfl,rfl⟩
    refine OwnS.setB (.inr ⟨id,st+1,u1,rfl,?_⟩) (u _ _)
    rw[hfsn,zy]
    exact zq (ο _)
  ·have hge:=xb e
   have hnF:n=F:=by omega
   subst hnF
   have hFl:=(W3 (k:=n) (xS w)).2
   have htier:Fit X.tier:=by rw[hRv];exact ku _
   simp only[go_sem]
   refine YG (λT2 h2=>StR G H.length (h.length+2) (xO X (.sl 2 ((flgs V).map xy))) E h2/\T2 2= .ptr h.length 0/\T2 3= .ptr (h.length+1) 0/\T2 4= .ptr (h.length+2) 0/\T2 5= .ptr H.length 0/\T2 11=i64 M/\T2 12=i64 k) (λnx=>?_) ?_
   ·rcases ν with⟨rfl,Q⟩|⟨id,st,u1,rfl,u3⟩
    ·refine vma 2 (a:=yX X) (kh.row N C) (nx _ _ ⟨?_,by simp only[go_sem,t2],by simp only[go_sem,t3],by simp only[go_sem,t4],by simp only[go_sem,t5],by simp only[go_sem,z],by simp only[go_sem,A]⟩)
     rw[Q]
     exact kh.setj N C _
    ·exact zYa (a:=yX X) (kh.row N C) u3 (nx _ _ ⟨(kh.setL u1 rfl).setj N C _,by simp only[go_sem,t2],by simp only[go_sem,t3],by simp only[go_sem,t4],by simp only[go_sem,t5],by simp only[go_sem,z],by simp only[go_sem,A]⟩)
   ·clear t2 t3 t4 t5 z A t16 t17 kh ν
    rintro T2 h2 ⟨kz,t2,t3,t4,t5,z,A⟩
    have hrz:=kz.row N C
    have hzl:=kz.len
    refine qK (jD (qf (by decide) ?_))
    simp only[go_sem,t5,hrz]
    refine zg (yRa _ X _ (flgs V) htier ⟨rfl,λ_=>rfl⟩) ?_
    rintro _ h5 ⟨rfl,rfl⟩
    have l:FrR H.length (h.length+2) H h5:=λm o z1 z2 z3=>kz.fr m o z1 z2 (by rw[hG];exact zf z3)
    have I:=xba D hmf (by rw[Int.toNat_natCast];exact w)
    cases ψ:kC X (flgs V)
    ·simp only[go_sem,ψ,qD,Bool.not_false]
     refine qK (wH (t:=true) (by simp only[go_sem]<;>rfl) (λ_=>?_) (λe=>by cases e))
     refine Kj Vb Vc (by decide) (by decide) ?_
     obtain⟨L,hL,_⟩:=hp
     rw[<-hRv,ψ] at I
     refine⟨rfl,Ja hm (yz Z I hlt),by simp only[go_sem,t2],by simp only[go_sem,t3],⟨_,l _ _ (by omega) (by omega) k0⟩,⟨_,l _ _ (by omega) (by omega) k1⟩,Vj λj o O=>l j o ?_ ?_ (by rw[hL];exact zf O)⟩
     ·have:=(zd.1 O).1
      omega
     ·have:=(zd.1 O).1
      have hHh:h.length<=H.length:=by rw[hL,ze];omega
      omega
    ·rw[<-hRv,if_pos ψ] at I
     have hp5:Pre h h5:=by
      obtain⟨L,e1,e2⟩:=kz.eq
      rw[e1]
      have hpG:Pre h G:=by rw[hG];exact hp.app (zG rfl)
      have hHh:h.length<=H.length:=by omega
      exact((hpG.set hHh rfl).set (by omega) rfl).app e2
     have hbk3:By E:=σ
     have hrd2:=qja Z I
     have hk0:=l _ _ (by omega) (by omega) k0
     have R:∀M,(h5++M)[h.length]? =some (.box 32 [yv]):=λM=>zf hk0
     have hrzM:∀M,(h5++M)[H.length]? =some (yQ (xO X (.sl 2 ((flgs V).map xy)))):=λM=>zf hrz
     simp only[go_sem,ψ,qD,Bool.not_true]
     refine qK (wH (t:=false) (by simp only[go_sem]<;>rfl) (λe=>by cases e) (λ_=>Js ?_))
     refine qK (qn _ (by decide) ?_)
     rcases δ with⟨rfl,Q⟩|⟨id,st,u1,rfl,u3⟩
     ·simp only[go_sem,t2,t5,hk0,R,hrz,hrzM]
      refine qK (qn _ (by decide) ?_)
      simp only[go_sem,A]
      refine⟨M - (k+1),by omega,k+1,W++[(X,flgs V)],E,.tl (h5.length+1) 0,by omega,hrd2,hbk3,by omega,(hp5.app (zr rfl (zG rfl))).set (zn _) rfl,zq (R _),?_,?_,?_,t2,t3,t4,z,qm (by omega) rfl,rfl⟩
      ·refine OwnS.setB (.inr ⟨_,0,?_,rfl,?_⟩) (R _)
       ·have:=hp5.len;omega
       ·rw[zy,Q,zK (k:=1) rfl];rfl
      ·rw[zc (by omega)]
       exact zf (l _ _ (by omega) (by omega) k1)
      ·rw[zc (by omega)]
       exact zf (kz.eye S)
     ·have u4:=l _ _ (λe=>by rw[e,k2] at u3;cases u3) (λe=>by have:=(zd.1 u3).1;omega) u3
      have ο:∀M,(h5++M)[id]? =some (.row 45 27 (W.map λq=>yX q.1++[.sl 2 (q.2.map xy)]) st):=λM=>zf u4
      have ζ:((W.map λq:RowV × List Flg=>yX q.1++[AV.sl 2 (q.2.map xy)]).length+1)*233<=140737488355328:=by
       have:=(J4 hb1 Z).1
       rw[zb]
       omega
      have u:∀M o',((h5++M).set id o')[h.length]? =some (.box 32 [.tl id st]):=λM o'=>by
       rw[zc (λe=>by rw[e,k0] at u3;cases u3)];exact R M
      simp only[go_sem,t2,t5,hk0,R,hrz,hrzM,ο,ζ,u]
      refine qK (qn _ (by decide) ?_)
      simp only[go_sem,A]
      have ne1:id≠h.length+1:=λe=>by rw[e,k1] at u3;cases u3
      have ne2:id≠h.length+2:=λe=>by rw[e,k2] at u3;cases u3
      refine⟨M - (k+1),by omega,k+1,W++[(X,flgs V)],E,.tl id (st+1),by omega,hrd2,hbk3,by omega,((hp5.app (zG rfl)).set u1 rfl).set (zn _) rfl,zq (u _ _),?_,?_,?_,t2,t3,t4,z,qm (by omega) rfl,rfl⟩
      ·refine OwnS.setB (.inr ⟨id,st+1,u1,rfl,?_⟩) (u _ _)
       rw[zy]
       exact zq (ο _)
      ·rw[zc (by omega),zc ne1]
       exact zf (l _ _ (by omega) (by omega) k1)
      ·rw[zc (by omega),zc ne2]
       exact zf (kz.eye S)
 ·have hge:=xb e
  have hkM:k=M:=by omega
  subst hkM
  simp only[go_sem]
  refine qK (jD (qf (by decide) ?_))
  simp only[go_sem,t4,k2,zb]
  have I:=w7a hm Z
  cases q1:decide ((bk.length:Int)>0)
  ·have hbn:bk=[]:=zC (by have:=of_decide_eq_false q1;omega)
   rw[if_pos hbn] at I
   refine qK (wH (t:=false) (by simp only[go_sem,q1]<;>rfl) (λe=>by cases e) (λ_=>Js ?_))
   refine qK (qn _ (by decide) ?_)
   have hyo:=δ.rows.one
   have k1M:∀o,(H.set h.length o)[h.length+1]? =some (.box 37 [i64 0]):=λo=>by rw[zc (by omega)];exact k1
   have hyc:=δ.rows.cells
   simp only[go_sem,t2,t3,k0,k1,k1M,hyo,hyc]
   have hp2:=(hp.set (i:=h.length) (o:= .box 32 [yv]) (zn _) rfl).set (i:=h.length+1) (o:= .box 37 [i64 0]) (by omega) rfl
   have ho2:OwnS h _ 45 27 yv (W.map xP):=(δ.setB (o:= .box 32 [yv]) k0).setB (o:= .box 37 [i64 0]) (k1M _)
   have g0:((H.set h.length (.box 32 [yv])).set (h.length+1) (.box 37 [i64 0]))[h.length]? =some (.box 32 [yv]):=by rw[zc (by omega)];exact zq k0
   have g1:((H.set h.length (.box 32 [yv])).set (h.length+1) (.box 37 [i64 0]))[h.length+1]? =some (.box 37 [i64 0]):=zq (k1M _)
   obtain⟨L,hL,hN⟩:=hp2
   refine⟨.tup [yv,i64 0],by simp only[go_sem,t2,t3,g0,g1,hyo],W,L,I,hL,hN,?_⟩
   rw[hL] at ho2
   exact .tup (.cons (.new (by decide) (Q8 _) (ho2.new (zn _))) (.lt rfl))
  ·have hbn:bk≠[]:=λe=>by rw[e] at q1;cases q1
   rw[if_neg hbn] at I
   refine qK (wH (t:=true) (by simp only[go_sem,q1]<;>rfl) (λ_=>?_) (λe=>by cases e))
   refine Kj Vb Vc (by decide) (by decide) ?_
   obtain⟨L,hL,_⟩:=hp
   exact⟨rfl,I,by simp only[go_sem,t2],by simp only[go_sem,t3],⟨_,k0⟩,⟨_,k1⟩,L,hL⟩
def vna(b:List Int):AV:=match wU b with
 | some W=> .tup [.sl 27 (W.map xP),i64 0]
 | none=> .tup [.v (.slice none 0 0),i64 200]
theorem jGb(h:List Ob)(x:AV)(b:List Int)(j:SlOf h x 1 (b.map qX))(g:By b)(k:b.length<1073741824):ACalls Tryz.prog 16 [x] h λr h'=>r=vna b/\h'=h:=by
 obtain⟨R,f⟩:∃R:AV->List Ob->Prop,R=λr h'=>Yba h b r h'∨(wU b=none/\r= .tup [.v (.slice none 0 0),i64 200]/\h'=h):=⟨_,rfl⟩
 have hex:∃r h',R r h'/\ResK h h':=by
  rw[f]
  cases e:wU b with
  | none=>exact⟨_,h,.inr ⟨rfl,rfl,rfl⟩,.refl⟩
  | some W=>exact⟨.tup [.sl 27 (W.map xP),i64 0],h,.inl ⟨W,[],e,by simp,jf,.lt (by simp only[AV.lt,qz,Q8,Bool.and_self])⟩,.refl⟩
 have key:=vla h x R (wU b=none) hex λB=>(zEb h x b j g k B).mono λe T h' q=>by
  cases e with
  | normal=>obtain⟨r,d,c⟩:=q;exact⟨r,d,by rw[f];exact .inl c⟩
  | ret=>obtain⟨r,d,c⟩:=q;exact⟨r,d,by rw[f];exact .inl c⟩
  | panic l=>exact q
  | _=>exact q
 have a:wU b=none->∀r h',(r=AV.tup [.v (.slice none 0 0),i64 200]/\h'=h)->∃L,h'=h++L/\NoRes L/\FrzTo h L r (vna b):=λe r h' ⟨d,c⟩=>by
  subst d c
  refine⟨[],by simp,jf,?_⟩
  unfold vna
  rw[e]
  exact .lt rfl
 refine qna (yL key λr h' q=>⟨r,?_,.refl r⟩)
 rw[f] at q
 rcases q with(⟨W,L,e,d,c,i⟩|⟨e,q⟩)|⟨e,q⟩
 ·refine⟨L,d,c,?_⟩
  unfold vna
  rw[e]
  exact i
 ·exact a e r h' q
 ·exact a e r h' q
def a20(n:Nat):SA:=⟨.v (.slice none 0 0),.tl (n+2) 0,.tl (n+3) 0,.tl (n+4) 0,.tl (n+5) 0,.tl (n+6) 0⟩
theorem zFb(h:List Ob)(x:AV){b:List Int}{W:List (RowV × List Flg)}(c:SlOf h x 1 (b.map qX))(d:By b)(e:b.length<1073741824)(a:wU b=some W):ACalls Tryz.prog 16 [x] h λr h'=>r= .tup [.sl 27 (W.map xP),i64 0]/\h'=h:=by
 have:=jGb h x b c d e
 unfold vna at this
 rw[a] at this
 exact this
theorem zGb{a b m:Int}(d:a<=m)(c:b<=m):max a b<=m:=by omega
theorem jHb{s:Setup}(f:SFit s){l:List Ev}{w wk:Int}(Q:ve s w wk=0)(X:l.length<=200):FitW (jj s l w wk).1 (jj s l w wk).2:=by
 have r:=(VY f l w wk (by omega)).1
 refine⟨?_,r.1,r.2⟩
 obtain⟨t,U,k0⟩:=zSa Q
 have W:(evR s w l).length<=l.length:=WY s w l
 have L:=jha (s:=s) (l:=evR s w l) (w:=w)
 have I:=qo (λg=>K1 (evR s w l) g==wk) (qF s (evR s w l) w).2
 unfold jj
 rw[if_neg (by omega)]
 obtain⟨F,B⟩:∃F,F=xq (evR s w l) (qF s (evR s w l) w).2 wk:=⟨_,rfl⟩
 have N:F.length<=200:=by rw[B];unfold xq;omega
 have v:∀x∈F,x.id<=100000/\x.kind<=3:=λx i=>by
  rw[B] at i
  have i:=(qq.1 i).1
  obtain⟨e,M,H⟩:=VC x i
  have m:=(qq.1 M).2
  have u:wi s e=true:=by
   unfold JW at m
   cases q:wi s e
   ·rw[q] at m;simp at m
   ·rfl
  have:=(Z1 (Qk u)).2.1
  exact⟨by omega,(jia x i).2⟩
 rw[<-B]
 have o:∀j:Nat,0<=Zj (wc s (qF s (evR s w l) (w.toNat:Int)).1 wk) j/\Zj (wc s (qF s (evR s w l) (w.toNat:Int)).1 wk) j<=604800:=λj=>y0a
 have E:=Kra (s:=s) (l:=evR s w l) (w:=(w.toNat:Int)) (k:=wk)
 have A:=yCa (s:=s) (l:=evR s w l) (w:=(w.toNat:Int)) (k:=wk) t (by omega)
 have hB:(kE s (evR s w l) (w.toNat:Int) wk).err≠0->(kE s (evR s w l) (w.toNat:Int) wk).earned=(0,0)/\(kE s (evR s w l) (w.toNat:Int) wk).perf=(0,0):=by
  rw[kE,if_pos t,JP]
  exact yBa
 have C:Fit (kE s (evR s w l) (w.toNat:Int) wk).eligible:=by
  rw[kE,if_pos t,JP,kna]
  exact zda
 have O:=f.nr
 have G:=vca t
 intro n c
 show n<=_
 have c:n∈jq (wxa s (evR s w l) w.toNat wk) F:=c
 revert c
 unfold wxa
 extract_lets P tot tier p
 intro c
 have E:xM P.err:=E
 have A:P.err=0->Lo P.earned/\Lo P.perf:=A
 have hB:P.err≠0->P.earned=(0,0)/\P.perf=(0,0):=hB
 have C:Fit P.eligible:=C
 have T:(P.earned.1<=2147483647/\P.earned.2<=2147483647)/\P.perf.1<=2147483647/\P.perf.2<=2147483647:=by
  by_cases h0:P.err=0
  ·obtain⟨a,b⟩:=A h0
   exact⟨⟨a.num.2,a.den⟩,b.num.2,b.den⟩
  ·obtain⟨a,b⟩:=hB h0
   rw[a,b]
   exact⟨⟨by decide,by decide⟩,by decide,by decide⟩
 have d:∀j,j<=6->p.pays j<=9223372036854775807:=λj R=>by
  have:=(vda G w.toNat tot R).2
  show vm s w.toNat tot j<=_
  omega
 have z:p.extra<=9223372036854775807:=by
  have:=(jga G P.eligible tier).1.2
  show vd s P.eligible tier<=_
  omega
 have D:p.supp<=9223372036854775807:=zGb (by omega) (ku _).2
 have y:p.total<=9223372036854775807:=(ku _).2
 have V:P.err<=100:=by unfold xM at E;omega
 have h:wr (tier+1)<=9223372036854775807:=(ku _).2
 obtain⟨⟨H,S⟩,J,K⟩:=T
 have t0:=(o 0).2
 have t1:=(o 1).2
 have t2:=(o 2).2
 have t3:=(o 3).2
 have t4:=(o 4).2
 have t5:=(o 5).2
 have t6:=(o 6).2
 unfold jq j8 Q5 Z3 wo at c
 simp only[zJ,zE,List.not_mem_nil,or_false,List.mem_flatMap] at c
 rcases c with((((c|c)|c)|c)|c)|⟨x,i,c⟩
 ·rcases c with c|c|c<;>rw[c]
  ·omega
  ·omega
  ·show P.err<=_
   omega
 ·rcases c with rfl|rfl|rfl|rfl|rfl|rfl|rfl
  ·exact Int.le_trans t0 (by decide)
  ·exact Int.le_trans t1 (by decide)
  ·exact Int.le_trans t2 (by decide)
  ·exact Int.le_trans t3 (by decide)
  ·exact Int.le_trans t4 (by decide)
  ·exact Int.le_trans t5 (by decide)
  ·exact Int.le_trans t6 (by decide)
 ·rcases c with rfl|rfl|rfl|rfl|rfl|rfl|rfl
  ·exact d 0 (by omega)
  ·exact d 1 (by omega)
  ·exact d 2 (by omega)
  ·exact d 3 (by omega)
  ·exact d 4 (by omega)
  ·exact d 5 (by omega)
  ·exact d 6 (by omega)
 ·rcases c with rfl|rfl|rfl|rfl|rfl|rfl|rfl|rfl|rfl
  ·exact Int.le_trans H (by decide)
  ·exact Int.le_trans S (by decide)
  ·exact Int.le_trans J (by decide)
  ·exact Int.le_trans K (by decide)
  ·exact C.2
  ·exact h
  ·exact z
  ·exact D
  ·exact y
 ·subst c;omega
 ·obtain⟨a1,a2⟩:=v x i
  rcases c with rfl|rfl
  ·exact Int.le_trans a1 (by decide)
  ·exact Int.le_trans a2 (by decide)
