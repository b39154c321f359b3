import Derived.Test.YtigdlmpjijhpaaaGreatKA
import Derived.Test.YtigdlmpjijhpaaaGreatK33
import Derived.Lib.AppendZerosOnto
import Derived.Lib.Walk
import Derived.Lib.SliceRun
import Derived.Lib.Hide
import Derived.Test.YtigdlmpjijhpaaaGreatK31
set_option linter.all false
namespace Go.Proofs.YtigdlmpjijhpaaaGreat.Ax
open Go Go.Proofs
set_option maxRecDepth 100000
def spv(l:List Spn):AV:= .sl 2 (l.map qq)
theorem jK{h:List Ob}(l:List Spn):SlOf h (spv l) 2 (l.map qq):=⟨rfl,λ_=>rfl⟩
theorem Zsa{h:List Ob}(l:List Spn):zZ h (spv l)=some (l.map qq):=rfl
theorem V8a{h:List Ob}(l:List Spn):eOf h (spv l)=some 2:=rfl
theorem Jfa(l:List Spn):AV.one (spv l)=true:=rfl
theorem wya(l:List Spn):AV.cells (spv l)=some [spv l]:=rfl
theorem Z4{n:Nat}:∀l:List Spn,qZ n (l.map qq)=true
 | []=>rfl
 | s::l=>by
   rw[List.map_cons,qZ,Z4 l];rfl
theorem QL{n:Nat}(l:List Spn):(spv l).lt n=true:=Z4 l
attribute [go_sem] Zsa V8a Jfa wya
theorem QM(h:List Ob)(x:AV)(l:List Spn)(b:SlOf h x 2 (l.map qq))(a:l.length<1099511627776):
  ACalls Tryz.prog 70 [x] h λr h'=>r=spv (qg l)/\h'=h:=ve (by decide) (Z4 _) (c65 h x l b a)
theorem Z5{l:List Spn}{i:Nat}(h:i<l.length):(l.map qq)[i]? =some (qq l[i]):=by rw[zr,zh h];rfl
theorem Zta{h:List Ob}{i id ty d e st:Nat}{cs:List AV}{rows:List (List AV)}(b:h[i]? =some (.box ty cs))(c:h[id]? =some (.row d e rows st))(M:List Ob)(o:Ob):((h++M).set id o)[i]? =some (.box ty cs):=by
 have a:id≠i:=λq=>by rw[q,b] at c;cases c
 rw[zc a]
 exact zf b
theorem Kta(h:List Ob)(x y:AV)(a b:List Spn)(hx:SlOf h x 2 (a.map qq))(hy:SlOf h y 2 (b.map qq))(ha:a.length<1048576)(hb:b.length<1048576):
  ACalls Tryz.prog 192 [x,y] h λr h'=>r=spv (Kg a b)/\h'=h:=by
 refine zl Tryz.f192 [.tmp 4] 42 rfl rfl rfl rfl rfl rfl (by decide) (⟨_,_,⟨rfl,rfl⟩,.refl⟩) λB=>?_
 simp only[go_sem]
 refine zi (QM _ x a hx (by omega)) ?_
 rintro _ H ⟨rfl,rfl⟩
 obtain⟨u,Z⟩:∃u,u=qg a:=⟨_,rfl⟩
 obtain⟨v,W⟩:∃v,v=qg b:=⟨_,rfl⟩
 have ο:u.length<1048576:=by have:=z6 a;rw[Z];omega
 have μ:v.length<1048576:=by have:=z6 b;rw[W];omega
 rw[<-Z]
 have hand:Kg a b=qg (ye u v):=by rw[Z,W];rfl
 rw[hand]
 simp only[go_sem,zb]
 refine zO (by decide) (λm T h'=>∃i:Nat,i<=u.length/\Pre H h'/\OwnS H h' 143 2 (T 5) ((ye (u.take i) v).map qq)/\T 1=y/\T 11=spv u/\T 12=i64 u.length/\T 13=i64 i/\m=u.length - i) u.length
  ⟨0,by omega,Pre.refl,.inl ⟨by simp only[go_sem],rfl⟩,by simp only[go_sem],by simp only[go_sem],by(simp only[go_sem]<;>rfl),by(simp only[go_sem]<;>rfl),rfl⟩ ?_
 rintro m T h' ⟨i,hi,n,o,t1,g,f,c,rfl⟩
 simp only[go_sem,f,c]
 refine ways (λe=>?_) (λe=>?_)
 ·have R:=dlt e
  have A:=Z5 R
  have Y:(i:Int)<u.length:=by omega
  have s:=x3a (u.take i) v u[i]
  rw[zD R] at s
  have w:(ye (u.take i) v).length<=1048576*1048576:=by
   rw[YT,zX]
   exact Nat.mul_le_mul (by omega) (by omega)
  obtain⟨z,hz⟩:∃z,z=u[i]:=⟨_,rfl⟩
  rw[<-hz] at A s
  obtain⟨I,α⟩:∃I,I=ye (u.take i) v:=⟨_,rfl⟩
  rw[<-α] at o s w
  simp only[go_sem,t1,g,c,A,Y,zb,Int.toNat_natCast,zg]
  refine zi (QM _ y b ((n.app (zF rfl)).sl hy) (by omega)) ?_
  rintro _ h6 ⟨rfl,rfl⟩
  rw[<-W]
  simp only[go_sem,zb]
  obtain⟨J,p⟩:∃J,J=h'++[Ob.box 143 (qq z)]:=⟨_,rfl⟩
  rw[show h'++[Ob.box 143 [i64 z.from_,i64 z.to_]]=J from p.symm]
  have K:J[h'.length]? =some (.box 143 (qq z)):=by rw[p];exact zM rfl
  have γ:=n.len
  have P:Pre H J:=by rw[p];exact n.app (zF rfl)
  have Q:OwnS H J 143 2 (T 5) (I.map qq):=by rw[p];exact o.app _
  refine zO (by decide) (λm l G=>∃j:Nat,j<=v.length/\Pre H G/\OwnS H G 143 2 (l 5) ((I++(v.take j).map (yK z)).map qq)/\G[h'.length]? =some (.box 143 (qq z))/\l 1=y/\l 7= .ptr h'.length 0/\l 11=spv u/\l 12=i64 u.length/\l 13=i64 i/\l 18=spv v/\l 19=i64 v.length/\l 20=i64 j/\m=v.length - j) v.length
   ⟨0,by omega,P,by(simp only[go_sem];simpa using Q),K,by simp only[go_sem,t1],by simp only[go_sem],by simp only[go_sem,g],by simp only[go_sem,f],by simp only[go_sem,c],by simp only[go_sem],by(simp only[go_sem]<;>rfl),by(simp only[go_sem]<;>rfl),rfl⟩ ?_
  clear n o P Q t1 g f c K
  rintro m l G ⟨j,hj,n,o,U,t1,t7,g,f,c,O,F,D,rfl⟩
  simp only[go_sem,F,D]
  refine ways (λe=>?_) (λe=>?_)
  ·have C:=dlt e
   have d:=Z5 C
   have t:(j:Int)<v.length:=by omega
   have k:(v.take (j+1)).map (yK z)=(v.take j).map (yK z)++[yK z v[j]]:=by rw[<-zD C,zy];rfl
   obtain⟨q,hq⟩:∃q,q=v[j]:=⟨_,rfl⟩
   rw[<-hq] at d k
   have hA:List.length (qq (yK z q))=2:=rfl
   have S:∀M,(G++M)[h'.length]? =some (.box 143 (qq z)):=λM=>zf U
   have E:(I.length+min j v.length+1)*17<=140737488355328:=by omega
   rcases o with⟨t5,N⟩|⟨id,st,u1,t5,u3⟩
   ·simp only[go_sem,t5,t7,O,D,S,d,t,zb,Int.toNat_natCast,zg,ZW,ZV]
    refine⟨v.length - (j+1),by omega,j+1,by omega,n.app (zp rfl (zp rfl (zF rfl))),.inr ⟨_,_,by have:=n.len;omega,rfl,?_⟩,t1,g,f,c,F,qc (by omega) rfl,rfl⟩
    rw[k, <-zn,zy,N,zN rfl]
    rfl
   ·have hg:∀M,(G++M)[id]? =some (.row 143 2 ((I++(v.take j).map (yK z)).map qq) st):=λM=>zf u3
    simp only[go_sem,t5,t7,O,D,S,hg,E,d,t,zb,zX,Int.toNat_natCast,zg,ZW,ZV]
    refine⟨v.length - (j+1),by omega,j+1,by omega,(n.app (zp rfl (zF rfl))).set u1 rfl,.inr ⟨id,st+1,u1,rfl,?_⟩,Zta U u3 _ _,t1,g,f,c,F,qc (by omega) rfl,rfl⟩
    rw[k, <-zn,zy (l₂:=[yK z q])]
    exact zq (hg _)
  ·have V:=xc e
   have X:j=v.length:=by omega
   subst X
   rw[zY, <-s] at o
   simp only[go_sem,c]
   exact⟨u.length - (i+1),by omega,i+1,by omega,n,o,t1,g,f,qc (by omega) rfl,rfl⟩
 ·have V:=xc e
  have β:i=u.length:=by omega
  subst β
  rw[zY] at o
  have w:(ye u v).length<=1048575*1048575:=by
   rw[YT]
   exact Nat.mul_le_mul (by omega) (by omega)
  simp only[go_sem]
  refine zi (QM _ _ (ye u v) o.rows (by omega)) ?_
  rintro _ h6 ⟨rfl,rfl⟩
  simp only[go_sem]
  obtain⟨L,rfl,_⟩:=n
  exact Yx (by simp only[go_sem]) (QL _)
theorem k0a(h:List Ob)(x:AV)(l:List Spn)(b:SlOf h x 2 (l.map qq))(a:l.length<1048576):
  ACalls Tryz.prog 22 [x] h λr h'=>r=i64 (jy (qg l))/\h'=h:=c30 h x l b a
def vg(l:List Spn)(n size:Int):List Spn:=if n<0∨n>32054400 / size then [] else Kg l [⟨n*size,(n+1)*size⟩]
theorem Kua(h:List Ob)(x:AV)(l:List Spn)(n size:Int)(m:SlOf h x 2 (l.map qq))(j:l.length<1048576)(g:size=86400∨size=604800):
  ACalls Tryz.prog 189 [x,i64 n,i64 size] h λr h'=>(r=spv (vg l n size)∨r= .v (.slice none 0 0)/\vg l n size=[])/\h'=h:=by
 have e:IntKind.wrap .i64 (Int.tdiv 32054400 size)=32054400 / size:=by rcases g with rfl|rfl<;>rfl
 have h0:¬ size=0:=by omega
 have o:32054400 / size<=371:=by rcases g with rfl|rfl<;>decide
 have hex:∃r h',((r=spv (vg l n size)∨r=AV.v (.slice none 0 0)/\vg l n size=[])/\h'=h)/\ResK h h':=⟨_,_,⟨.inl rfl,rfl⟩,.refl⟩
 refine zl Tryz.f189 [.tmp 6] 26 rfl rfl rfl rfl rfl rfl (by decide) (hex) λB=>?_
 simp only[go_sem]
 cases b:decide (n<0)
 ·have f:¬ n<0:=of_decide_eq_false b
  cases c:decide (n>32054400 / size)
  ·have d:¬ n>32054400 / size:=of_decide_eq_false c
   have a:vg l n size=Kg l [⟨n*size,(n+1)*size⟩]:=by unfold vg;rw[if_neg (by omega)]
   have q:n*size<=371*604800/\0<=n*size/\(n+1)*size<=372*604800/\0<=(n+1)*size:=by
    rcases g with rfl|rfl<;>omega
   have p:IntKind.wrap .i64 (n*size)=n*size:=qb (n:=n*size) (by unfold Fit;omega)
   have k:IntKind.wrap .i64 (n+1)=n+1:=qb (n:=n+1) (by unfold Fit;omega)
   have i:IntKind.wrap .i64 ((n+1)*size)=(n+1)*size:=qb (n:=(n+1)*size) (by unfold Fit;omega)
   simp only[go_sem,b,c,e,h0,qE,p,k,i]
   refine zi (Kta _ x _ l [⟨n*size,(n+1)*size⟩] (m.app _) (OwnS.rows (h0:=h) (ty:=143) (.inr ⟨_,_,zo _,rfl,by rw[zM rfl];rfl⟩)) j (by simp)) ?_
   rintro _ s ⟨rfl,rfl⟩
   simp only[go_sem]
   exact⟨spv (vg l n size),by(simp only[go_sem];rw[a]),.inr ⟨h,_,rfl,rfl,QL _,.refl,.inl rfl,rfl⟩⟩
  ·have d:=of_decide_eq_true c
   have a:vg l n size=[]:=by unfold vg;rw[if_pos (by omega)]
   simp only[go_sem,b,c,e,h0,qE]
   exact⟨_,by simp only[go_sem],.inl ⟨.inr ⟨rfl,a⟩,rfl⟩⟩
 ·have f:=of_decide_eq_true b
  have a:vg l n size=[]:=by unfold vg;rw[if_pos (by omega)]
  simp only[go_sem,b,e,h0,qE]
  exact⟨_,by simp only[go_sem],.inl ⟨.inr ⟨rfl,a⟩,rfl⟩⟩
theorem XKa(h:List Ob)(x:AV)(l:List Spn)(n size:Int)(c:SlOf h x 2 (l.map qq))(a:l.length<1048576)(b:size=86400∨size=604800):
  ACalls Tryz.prog 189 [x,i64 n,i64 size] h λr h'=>r=spv (vg l n size)/\h'=h:=
 JN ((Kua h x l n size c a b).mono λr h' ⟨q,e⟩=>⟨q.imp_right λq=>⟨q.1,by rw[q.2];rfl⟩,e⟩)
def xf(l:List Spn)(d:Int):List Spn:=vg l d 86400
def jh(l:List Spn)(k:Int):List Spn:=vg l k 604800
theorem x4a(h:List Ob)(x:AV)(l:List Spn)(d:Int)(b:SlOf h x 2 (l.map qq))(a:l.length<1048576):
  ACalls Tryz.prog 241 [x,i64 d] h λr h'=>r=spv (xf l d)/\h'=h:=by
 refine zl Tryz.f241 [.tmp 4] 8 rfl rfl rfl rfl rfl rfl (by decide) (⟨_,_,⟨rfl,rfl⟩,.refl⟩) λB=>?_
 simp only[go_sem]
 refine zi (XKa h x l d 86400 b a (.inl rfl)) ?_
 rintro _ c ⟨rfl,rfl⟩
 simp only[go_sem]
 exact JI (by simp only[go_sem];rfl)
theorem k1a(h:List Ob)(x:AV)(l:List Spn)(k:Int)(b:SlOf h x 2 (l.map qq))(a:l.length<1048576):
  ACalls Tryz.prog 117 [x,i64 k] h λr h'=>r=spv (jh l k)/\h'=h:=by
 refine zl Tryz.f117 [.tmp 4] 8 rfl rfl rfl rfl rfl rfl (by decide) (⟨_,_,⟨rfl,rfl⟩,.refl⟩) λB=>?_
 simp only[go_sem]
 refine zi (XKa h x l k 604800 b a (.inr rfl)) ?_
 rintro _ c ⟨rfl,rfl⟩
 simp only[go_sem]
 exact JI (by simp only[go_sem];rfl)
theorem Zy(l:List Spn)(n size:Int):(vg l n size).length<=(qg l).length+1:=by
 unfold vg
 split
 ·simp
 ·have b:=Wl l [⟨n*size,(n+1)*size⟩]
  have a:=z6 [(⟨n*size,(n+1)*size⟩:Spn)]
  simp at a
  omega
def vK(n:Int):Int:=ofI n 86400
theorem V9a(n:Int):xv Tryz.prog 240 [i64 n] (i64 (vK n)):=λh=>by
 refine zl Tryz.f240 [.tmp 2] 5 rfl rfl rfl rfl rfl rfl (by decide) (⟨_,_,⟨rfl,rfl⟩,.refl⟩) λB=>?_
 simp only[go_sem]
 refine zi (c51 n 86400 (by decide) _) ?_
 rintro _ a ⟨rfl,rfl⟩
 simp only[go_sem]
 refine zk ?_<;>(simp only[go_sem,vK]<;>try rfl)
def yL:List Spn->List Spn->Int->List Spn
 | o,[],_=>o
 | o,s::r,n=>if n<=0 then o else yL (o++[Z2 s n]) r (n - ((Z2 s n).to_ - s.from_))
theorem jca:∀(l o:List Spn) (n:Int),yL o l n=o++Z3 l n
 | [],o,n=>by simp[yL,Z3]
 | s::r,o,n=>by
   rw[yL,Z3]
   split
   ·simp
   ·rw[jca r];simp
theorem jda{v o:List Spn}{i:Nat}{n:Int}(hi:i<v.length):yL o (v.drop i) n=if n<=0 then o else yL (o++[Z2 v[i] n]) (v.drop (i+1)) (n - ((Z2 v[i] n).to_ - (v[i]).from_)):=by
 rw[qp hi,yL]
theorem Jga(h:List Ob)(x:AV)(l:List Spn)(n:Int)(Q:SlOf h x 2 (l.map qq))(Z:l.length<1048576)(V:Fit n):
  ACalls Tryz.prog 187 [x,i64 n] h λr h'=>∃L,h'=h++L/\NoRes L/\New h 2 r ((qv l n).map qq) L:=by
 have hex:∃r h',(∃L,h'=h++L/\NoRes L/\New h 2 r ((qv l n).map qq) L)/\ResK h h':=
  ⟨.sl 2 _,_,⟨[],rfl,xr,λ_ _=>⟨rfl,λ_=>rfl⟩⟩,q8⟩
 refine zl Tryz.f187 [.tmp 4] 38 rfl rfl rfl rfl rfl rfl (by decide) (hex) λB=>?_
 simp only[go_sem]
 refine zi (QM _ x l Q (by omega)) ?_
 rintro _ H ⟨rfl,rfl⟩
 have c:qv l n=yL [] ((qg l).drop 0) n:=by rw[jca];rfl
 have g:= @kE l
 rw[c]
 obtain⟨v,F⟩:∃v,v=qg l:=⟨_,rfl⟩
 have S:v.length<1048576:=by have:=z6 l;rw[F];omega
 rw[<-F] at g⊢
 obtain⟨W,J⟩:∃W,W=yL [] (v.drop 0) n:=⟨_,rfl⟩
 rw[<-J]
 simp only[go_sem,zb]
 refine zO (by decide) (λm T h'=>∃(i:Nat) (o:List Spn) (k:Int),i<=v.length/\o.length<=i/\Fit k/\yL o (v.drop i) k=W/\Pre H h'/\OwnS H h' 143 2 (T 4) (o.map qq)/\T 1=i64 k/\T 8=spv v/\T 9=i64 v.length/\T 10=i64 i/\m=v.length - i) v.length
  ⟨0,[],n,by omega,by simp,V,J.symm,Pre.refl,.inl ⟨by simp only[go_sem],rfl⟩,by simp only[go_sem],by simp only[go_sem],by(simp only[go_sem]<;>rfl),by(simp only[go_sem]<;>rfl),rfl⟩ ?_
 rintro m T h' ⟨i,o,k,hi,Y,w,a,t,C,t1,t8,t9,t10,rfl⟩
 simp only[go_sem,t9,t10]
 refine ways (λe=>?_) (λe=>?_)
 ·have f:=dlt e
  have b:=Z5 f
  have A:(i:Int)<v.length:=by omega
  have U:=g _ (zw f)
  rw[jda f] at a
  obtain⟨z,R⟩:∃z,z=v[i]:=⟨_,rfl⟩
  rw[<-R] at b a U
  simp only[go_sem,t1,t8,t10,b,A,zb,Int.toNat_natCast,zg]
  refine ways (λd=>?_) (λd=>?_)
  ·have d:k<=0:=of_decide_eq_true d
   rw[if_pos d] at a
   simp only[go_sem]
   subst a
   exact XD (by simp only[go_sem]) (t.app (zF rfl)) (C.app _)
  ·have d:¬ k<=0:=of_decide_eq_false d
   rw[if_neg d] at a
   obtain⟨y,D⟩:∃y,y=Z2 z k:=⟨_,rfl⟩
   have q:y.from_=z.from_:=by rw[D];rfl
   have s:y.to_=min z.to_ (z.from_+min k 32054400):=by rw[D];rfl
   have G:IntKind.wrap .i64 (z.from_+min k 32054400)=z.from_+min k 32054400:=qb (n:=z.from_+min k 32054400) (by unfold Fit at w ⊢;omega)
   have O:IntKind.wrap .i64 (y.to_ - z.from_)=y.to_ - z.from_:=qb (n:=y.to_ - z.from_) (by unfold Fit at w ⊢;omega)
   have N:IntKind.wrap .i64 (k - (y.to_ - z.from_))=k - (y.to_ - z.from_):=qb (n:=k - (y.to_ - z.from_)) (by unfold Fit at w ⊢;omega)
   have u:Fit (k - (y.to_ - z.from_)):=by unfold Fit at w ⊢;omega
   rw[<-D] at a
   have hA:List.length (qq y)=2:=rfl
   have j:(o.length+1)*17<=140737488355328:=by omega
   rcases C with⟨t4,p⟩|⟨id,st,K,t4,X⟩
   ·simp only[go_sem,t1,t4,t8,t10,zb,ZV,G, <-s,O,N]
    refine⟨v.length - (i+1),by omega,i+1,o++[y],_,by omega,by simp;omega,u,a,t.app (zp rfl (zp rfl (zF rfl))),.inr ⟨_,_,by have:=t.len;omega,rfl,?_⟩,rfl,t9,qc (by omega) rfl,rfl⟩
    rw[zy,p,zN rfl, <-q]
    rfl
   ·have I:∀M,(h'++M)[id]? =some (.row 143 2 (o.map qq) st):=λM=>zf X
    simp only[go_sem,t1,t4,t8,t10,I,j,zb,ZV,G, <-s,O,N]
    refine⟨v.length - (i+1),by omega,i+1,o++[y],_,by omega,by simp;omega,u,a,(t.app (zp rfl (zF rfl))).set K rfl,.inr ⟨id,st+1,K,rfl,?_⟩,rfl,t9,qc (by omega) rfl,rfl⟩
    rw[zy, <-q]
    exact zq (I _)
 ·have P:=xc e
  have E:i=v.length:=by omega
  subst E
  rw[List.drop_length,yL] at a
  subst a
  simp only[go_sem]
  exact XD (by simp only[go_sem]) t C
theorem zWa(h:List Ob)(x:AV)(l:List Spn)(n:Int)(a:SlOf h x 2 (l.map qq))(b:l.length<1048576)(c:Fit n):
  ACalls Tryz.prog 187 [x,i64 n] h λr h'=>r=spv (qv l n)/\h'=h:=ve (by decide) (Z4 _) (Jga h x l n a b c)
def JW(o:List Int)(d:Int):List Int:=match o.getLast? with
 | none=>[d]
 | some x=>if x<d then o++[d] else o
theorem Zua(o:List Int)(d:Int):(JW o d).length<=o.length+1:=by
 unfold JW
 split
 ·simp
 ·split<;>simp
def Yd(o:List Int)(a:Int):Nat->List Int
 | 0=>o
 | k+1=>JW (Yd o a k) (a+k)
theorem Wn(o:List Int)(a:Int):∀k,(Yd o a k).length<=o.length+k
 | 0=>zo _
 | k+1=>by
   have c:=Wn o a k
   have b:=Zua (Yd o a k) (a+k)
   rw[Yd];omega
def vm(o:List Int)(s:Spn):List Int:=Yd o (vK s.from_) (vK (s.to_ - 1) - vK s.from_+1).toNat
def qA(l:List Spn):List Int:=(qg l).foldl vm []
theorem wz(n:Int):0<=vK n/\vK n<371:=by
 unfold vK ofI jw
 have h0:0<=min (max n 0) 32054399/\min (max n 0) 32054399<=32054399:=by omega
 rw[Int.tdiv_eq_ediv_of_nonneg h0.1,qb (by unfold Fit;omega)]
 omega
theorem jea(o:List Int)(s:Spn):(vm o s).length<=o.length+372:=by
 have c:=Wn o (vK s.from_) (vK (s.to_ - 1) - vK s.from_+1).toNat
 have a:=wz s.from_
 have b:=wz (s.to_ - 1)
 unfold vm
 omega
theorem Kva(F:List (Nat × Ob))(h0 h:List Ob)(i:Nat)(o:List Int)(d:Int)(k:LIn F h0 h i 27 3 1 (o.map qI))(J:o.length<1099511627776):
  ACalls Tryz.prog 239 [i64 d,.ptr i 0] h λr h'=>r= .tup []/\LIn F h0 h' i 27 3 1 ((JW o d).map qI):=by
 have hex:∃r h',(r=AV.tup []/\LIn F h0 h' i 27 3 1 ((JW o d).map qI))/\ResK h h':=by
  obtain⟨h',G,D⟩:=k.any ((JW o d).map qI)
  exact⟨_,h',⟨rfl,G⟩,D⟩
 obtain⟨x,c,p⟩:=k.at_
 have j:zZ h x=some (o.map qI):=p.rows.rows
 have K:List.length (qI d)=1:=rfl
 have e:(o.length+1)*9<=140737488355328:=by omega
 refine zl Tryz.f239 [] 21 rfl rfl rfl rfl rfl rfl (by decide) (hex) λB=>?_
 simp only[go_sem,c,j,zb]
 rcases p with⟨rfl,m⟩|⟨id,st,E,rfl,g⟩
 ·have s:o=[]:=by simpa using m
  subst s
  have b:∀M,(h++M)[i]? =some (.box 27 [.v (.slice none 0 0)]):=λM=>zf c
  simp only[go_sem,c,b]
  exact⟨_,rfl,.inl ⟨rfl,k.push_nil (zp rfl (zF rfl)) (by omega) (by rw[zN (k:=1) rfl];rfl)⟩⟩
 ·have w:∀M,(h++M)[id]? =some (.row 3 1 (o.map qI) st):=λM=>zf g
  have b:∀M,(h++M)[i]? =some (.box 27 [.tl id st]):=λM=>zf c
  have u:id≠i:=λq=>by rw[q,c] at g;cases g
  have f:∀M o',((h++M).set id o')[i]? =some (.box 27 [.tl id st]):=λM o'=>by
   rw[zc u];exact b M
  have app:∀M,NoRes M->JW o d=o++[d]->LIn F h0 (((h++M).set id (.row 3 1 (o.map qI++[[i64 d]]) (st+1))).set i (.box 27 [.tl id (st+1)])) i 27 3 1 ((JW o d).map qI):=λM I q=>by
   rw[q,zy]
   exact k.push_own I E g
  cases a:o.getLast? with
  | none=>
    have s:o=[]:=by simpa using a
    subst s
    simp only[go_sem,c]
    simp only[go_sem,b,w,e,f]
    exact⟨_,rfl,.inl ⟨rfl,app _ (zF rfl) rfl⟩⟩
  | some z=>
    have A:0<o.length:=by cases o with|nil=>cases a|cons _ _=>simp
    have y:(o.map qI)[o.length - 1]? =some [i64 z]:=by
     rw[zr]
     rw[List.getLast?_eq_getElem?] at a
     rw[a];rfl
    have l:((o.length:Int)==0)=false:=by rw[beq_eq_false_iff_ne];omega
    have C:IntKind.wrap .i64 ((o.length:Int) - 1)=((o.length - 1:Nat):Int):=Xy (by omega) (by omega)
    have n:((o.length - 1:Nat):Int)<o.length:=by omega
    have j:zZ h (.tl id st)=some (o.map qI):=j
    have H:eOf h (.tl id st)=some 1:=by rw[j5,g,yh]
    cases q:decide (z<d)
    ·have t:JW o d=o:=by unfold JW;rw[a];simp only;rw[if_neg (of_decide_eq_false q)]
     simp only[go_sem,l,c,g,C,y,n,qE,q,zb,Int.toNat_natCast,zg]
     exact⟨_,rfl,.inl ⟨rfl,by rw[t];exact k⟩⟩
    ·have t:JW o d=o++[d]:=by unfold JW;rw[a];simp only;rw[if_pos (of_decide_eq_true q)]
     simp only[go_sem,l,c,g,C,y,n,qE,q,zb,Int.toNat_natCast,zg]
     simp only[go_sem,b,w,e,f,zb]
     exact⟨_,rfl,.inl ⟨rfl,app _ (zF rfl) t⟩⟩
theorem Kwa(h:List Ob)(x:AV)(l:List Spn)(U:SlOf h x 2 (l.map qq))(hl:l.length<1048576):
  ACalls Tryz.prog 182 [x] h λr h'=>∃L,h'=h++L/\NoRes L/\New h 1 r ((qA l).map qI) L:=by
 have hex:∃r h',(∃L,h'=h++L/\NoRes L/\New h 1 r ((qA l).map qI) L)/\ResK h h':=
  ⟨.sl 1 _,_,⟨[],rfl,xr,λ_ _=>⟨rfl,λ_=>rfl⟩⟩,q8⟩
 refine zl Tryz.f182 [.cell 2 27] 37 rfl rfl rfl rfl rfl rfl (by decide) (hex) λB=>?_
 simp only[go_sem]
 refine zi (QM _ x l (U.app _) (by omega)) ?_
 rintro _ h4 ⟨rfl,rfl⟩
 have p:qA l=((qg l).take (qg l).length).foldl vm []:=by rw[zY];rfl
 have u:= @kE l
 rw[p]
 obtain⟨v,O⟩:∃v,v=qg l:=⟨_,rfl⟩
 have β:v.length<1048576:=by have:=z6 l;rw[O];omega
 rw[<-O] at u⊢
 obtain⟨W,P⟩:∃W,W=(v.take v.length).foldl vm []:=⟨_,rfl⟩
 rw[<-P]
 simp only[go_sem,zb]
 refine zO (by decide) (λm T h'=>∃(i:Nat) (o:List Int),i<=v.length/\o=(v.take i).foldl vm []/\o.length<=372*i/\LIn [] h h' h.length 27 3 1 (o.map qI)/\T 2= .ptr h.length 0/\T 3= .fn (.func 239) [] [.ptr h.length 0]/\T 10=spv v/\T 11=i64 v.length/\T 12=i64 i/\m=v.length - i) v.length
  ⟨0,[],by omega,rfl,by simp,⟨⟨_,rfl,zF rfl⟩,zo _,(λz I=>by cases I),_,by rw[zM rfl];rfl,.inl ⟨rfl,rfl⟩⟩,by simp only[go_sem],by simp only[go_sem],by simp only[go_sem],by(simp only[go_sem]<;>rfl),by(simp only[go_sem]<;>rfl),rfl⟩ ?_
 rintro m T h' ⟨i,o,hi,J,η,k,t2,t3,t10,d,b,rfl⟩
 simp only[go_sem,d,b]
 refine ways (λe=>?_) (λe=>?_)
 ·have t:=dlt e
  have g:=Z5 t
  have H:(i:Int)<v.length:=by omega
  have hb:=u _ (zw t)
  have C:(v.take (i+1)).foldl vm []=vm o v[i]:=by rw[<-zD t,jb, <-J];rfl
  obtain⟨z,I⟩:∃z,z=v[i]:=⟨_,rfl⟩
  rw[<-I] at g C hb
  simp only[go_sem,t10,b,g,H,zb,Int.toNat_natCast,zg]
  refine zi (V9a z.from_ _) ?_
  rintro _ R ⟨rfl,rfl⟩
  have V:IntKind.wrap .i64 (z.to_ - 1)=z.to_ - 1:=qb (n:=z.to_ - 1) (by unfold Fit;omega)
  simp only[go_sem,V]
  refine zi (V9a (z.to_ - 1) _) ?_
  rintro _ R ⟨rfl,rfl⟩
  have Z:=wz z.from_
  have r2:=wz (z.to_ - 1)
  have w2:IntKind.wrap .i64 (vK (z.to_ - 1) - vK z.from_)=vK (z.to_ - 1) - vK z.from_:=qb (n:=vK (z.to_ - 1) - vK z.from_) (by unfold Fit;omega)
  have w3:IntKind.wrap .i64 (vK (z.to_ - 1) - vK z.from_+1)=vK (z.to_ - 1) - vK z.from_+1:=qb (n:=vK (z.to_ - 1) - vK z.from_+1) (by unfold Fit;omega)
  simp only[go_sem,w2,w3]
  obtain⟨a,K⟩:∃a,a=vK z.from_:=⟨_,rfl⟩
  obtain⟨c,N⟩:∃c,c=vK (z.to_ - 1) - vK z.from_+1:=⟨_,rfl⟩
  have A:vm o z=Yd o a c.toNat:=by unfold vm;rw[K,N]
  rw[show vK (z.to_ - 1) - vK z.from_+1=c from N.symm,show vK z.from_=a from K.symm]
  rw[<-K] at Z
  have X:c<=371:=by omega
  refine zO (by decide) (λm f G=>∃j:Nat,j<=c.toNat/\LIn [] h G h.length 27 3 1 ((Yd o a j).map qI)/\f 2= .ptr h.length 0/\f 3= .fn (.func 239) [] [.ptr h.length 0]/\f 6=i64 a/\f 10=spv v/\f 11=i64 v.length/\f 12=i64 i/\f 25=i64 c/\f 26=i64 j/\m=c.toNat - j) c.toNat
   ⟨0,by omega,k.app (zF rfl),by simp only[go_sem,t2],by simp only[go_sem,t3],by simp only[go_sem],by simp only[go_sem,t10],by simp only[go_sem,d],by simp only[go_sem,b],by simp only[go_sem],by(simp only[go_sem]<;>rfl),rfl⟩ ?_
  clear k t2 t3 t10 d b
  rintro m f G ⟨j,hj,k,t2,t3,t6,t10,d,b,t25,s,rfl⟩
  simp only[go_sem,t25,s]
  refine ways (λe=>?_) (λe=>?_)
  ·have S:(j:Int)<c:=of_decide_eq_true e
   have w4:IntKind.wrap .i64 (a+j)=a+j:=qb (n:=a+j) (by unfold Fit;omega)
   have α:=Wn o a j
   simp only[go_sem,t3,t6,s,w4]
   refine zi (Kva [] h G h.length (Yd o a j) (a+j) k (by omega)) ?_
   rintro _ R ⟨rfl,k6⟩
   simp only[go_sem,s]
   exact⟨c.toNat - (j+1),by omega,j+1,by omega,k6,t2,t3,t6,t10,d,b,t25,qc (by omega) rfl,rfl⟩
  ·have E:¬ (j:Int)<c:=of_decide_eq_false e
   have F:j=c.toNat:=by omega
   subst F
   simp only[go_sem,b]
   have Y:=jea o z
   exact⟨v.length - (i+1),by omega,i+1,vm o z,by omega,C.symm,by omega,by rw[A];exact k,t2,t3,t10,d,qc (by omega) rfl,rfl⟩
 ·have E:=xc e
  have M:i=v.length:=by omega
  subst M
  rw[<-P] at J
  subst J
  obtain⟨Q,q,D⟩:=k.at_
  have y:=k.pre
  have w:AV.cells Q=some [Q]:=D.rows.cells
  simp only[go_sem,t2,q,w]
  rw[qX q]
  exact XD (by simp only[go_sem,t2,q]) y D
theorem Zva{n:Nat}:∀l:List Int,qZ n (l.map qI)=true
 | []=>rfl
 | s::l=>by
   rw[List.map_cons,qZ,Zva l];rfl
theorem Zwa(h:List Ob)(x:AV)(l:List Spn)(b:SlOf h x 2 (l.map qq))(a:l.length<1048576):
  ACalls Tryz.prog 182 [x] h λr h'=>r= .sl 1 ((qA l).map qI)/\h'=h:=ve (by decide) (Zva _) (Kwa h x l b a)
theorem zXa{v:List Spn}{i:Nat}{k:Int}(h:i<v.length):qU k (v.drop i)=(if(v[i]).from_>k then [⟨k,(v[i]).from_⟩] else [])++qU (v[i]).to_ (v.drop (i+1)):=by
 rw[qp h,qU]
theorem YU{α:Type}{L r:List α}{n:Nat}{x:α}(h:L.drop n=x::r):L[n]? =some x/\L.drop (n+1)=r:=by
 have a:(L.drop n)[0]? =some x:=by rw[h];rfl
 rw[List.getElem?_drop] at a
 refine⟨a,?_⟩
 rw[<-List.drop_drop,h];rfl
theorem jfa{α:Type}{L:List α}{n:Nat}(h:L.drop n=[])(a:n<=L.length):n=L.length:=by
 have:(L.drop n).length=0:=by rw[h];rfl
 rw[List.length_drop] at this
 omega
def Wo(s:Spn):AV:= .ag (qq s)
theorem wza(j:Nat)(v:List Spn)(P:v.length<1048576):Kqa Tryz.prog 246 [.ptr j 0] (λh=>h[j]? =some (.box 55 [spv v])) ((qU 0 v).map Wo):=by
 intro l K L s d A u o J
 have hex:∃(r:AV) (h':List Ob),K ((qU 0 v).map Wo).length h'/\ResK L h':=by
  obtain⟨h',q⟩:=u
  exact⟨.tup [],h',q⟩
 have O:=A 0 L s
 refine zl Tryz.f246 [] 34 rfl rfl rfl rfl rfl rfl (by decide) (hex) λB=>?_
 simp only[go_sem,O,zb]
 refine zO (by decide) (λm T h'=>∃(i n:Nat) (k:Int),i<=v.length/\n<=(qU 0 v).length/\(qU 0 v).drop n=qU k (v.drop i)/\K n h'/\T 0= .v (.func (.yield l) #[] #[])/\T 3=i64 k/\T 6=spv v/\T 7=i64 v.length/\T 8=i64 i/\m=v.length - i) v.length
  ⟨0,0,0,by omega,by omega,rfl,s,by simp only[go_sem],by simp only[go_sem],by simp only[go_sem],by(simp only[go_sem]<;>rfl),by(simp only[go_sem]<;>rfl),rfl⟩ ?_
 rintro m T h' ⟨i,n,k,hi,I,a,g,t0,t3,t6,D,t8,rfl⟩
 simp only[go_sem,D,t8]
 refine ways (λe=>?_) (λe=>?_)
 ·have t:=dlt e
  have f:=Z5 t
  have w:(i:Int)<v.length:=by omega
  rw[zXa t] at a
  obtain⟨z,N⟩:∃z,z=v[i]:=⟨_,rfl⟩
  rw[<-N] at f a
  simp only[go_sem,t3,t6,t8,f,w,zb,Int.toNat_natCast,zg]
  cases q:decide (z.from_>k)
  ·rw[if_neg (of_decide_eq_false q),List.nil_append] at a
   simp only[go_sem,q,t3,t8,qE]
   exact⟨v.length - (i+1),by omega,i+1,n,_,by omega,I,a,d _ _ _ (zF rfl) g,t0,rfl,t6,D,qc (by omega) rfl,rfl⟩
  ·rw[if_pos (of_decide_eq_true q)] at a
   obtain⟨p,y⟩:=YU a
   have E:n<(qU 0 v).length:=(zd.1 p).1
   simp only[go_sem,q,t0,t3,t8,qE]
   refine Qv (J n (Wo ⟨k,z.from_⟩) _ (by rw[zr,p];rfl) (d _ _ _ (zF rfl) g)) ?_
   rintro H ⟨c,C⟩
   have F:H[h'.length]? =some (.box 143 (qq z)):=C _ _ _ (o _ _ g) (by rw[zM rfl];rfl)
   simp only[go_sem,q,t0,t3,t8,qE,F]
   exact⟨v.length - (i+1),by omega,i+1,n+1,_,by omega,by omega,y,c,rfl,t6,D,qc (by omega) rfl,rfl⟩
 ·have M:=xc e
  have G:i=v.length:=by omega
  subst G
  rw[List.drop_length,qU] at a
  simp only[go_sem,t3]
  refine ways (λx=>?_) (λx=>?_)
  ·rw[if_pos (of_decide_eq_true x)] at a
   obtain⟨p,y⟩:=YU a
   have E:n<(qU 0 v).length:=(zd.1 p).1
   simp only[go_sem,t0,t3]
   refine Qv (J n (Wo ⟨k,32054400⟩) _ (by rw[zr,p];rfl) g) ?_
   rintro H ⟨c,_⟩
   have b:n+1=((qU 0 v).map Wo).length:=by
    rw[zb];exact jfa y (by omega)
   rw[b,zb] at c
   simp only[go_sem]
   exact⟨_,rfl,.inl c⟩
  ·rw[if_neg (of_decide_eq_false x)] at a
   have b:n=((qU 0 v).map Wo).length:=by
    rw[zb];exact jfa a I
   rw[b,zb] at g
   simp only[go_sem]
   exact⟨_,rfl,.inl g⟩
theorem Jha(h:List Ob)(v:List Spn):ACalls Tryz.prog 193 [spv v] h λr h'=>r= .fn (.func 246) [] [.ptr h.length 0]/\h'=h++[.box 55 [spv v]]:=by
 refine zl Tryz.f193 [.tmp 2] 4 rfl rfl rfl rfl rfl rfl (by decide) (⟨_,_,⟨rfl,rfl⟩,q8⟩) λB=>?_
 simp only[go_sem]
 exact⟨_,rfl,.inl ⟨rfl,rfl⟩⟩
theorem JX(h:List Ob)(x y:AV)(a b:List Spn)(f:SlOf h x 2 (a.map qq))(hy:SlOf h y 2 (b.map qq))(ha:a.length<1048576)(hb:b.length<524288):
  ACalls Tryz.prog 119 [x,y] h λr h'=>r=spv (jo a b)/\h'=h:=by
 refine KG Tryz.f119 [.tmp 4] 18 rfl rfl rfl rfl rfl rfl (⟨_,rfl⟩) λbs=>?_
 refine xM (by decide) ?_
 simp only[go_sem]
 refine xM (by decide) ?_
 simp only[go_sem]
 refine VU ?_
 refine xM (by decide) ?_
 simp only[go_sem]
 refine zi (QM _ y b (hy.app _) (by omega)) ?_
 rintro _ h3 ⟨rfl,rfl⟩
 simp only[go_sem]
 refine zi (Jha _ (qg b)) ?_
 rintro _ h4 ⟨rfl,rfl⟩
 simp only[go_sem]
 have H:(qg b).length<1048576:=by have:=z6 b;omega
 obtain⟨v,P⟩:∃v,v=qg b:=⟨_,rfl⟩
 rw[<-P] at H⊢
 have δ:=JS v 0
 have Z:v.length<524288:=by have:=z6 b;rw[P];omega
 have base:LIn [(h.length+1,.box 55 [spv v])] h (h++[.box 55 [.v (.slice none 0 0)],.box 55 [spv v]]) h.length 55 143 2 []:=⟨⟨_,rfl,zp rfl (zF rfl)⟩,zo _,(λz Q=>by
  cases Q with
  | head=>exact⟨by show h.length+1≠h.length;omega,⟨_,_,rfl⟩,by rw[zN (k:=1) rfl];rfl⟩
  | tail _ Q=>cases Q),_,by rw[zM rfl];rfl,.inl ⟨rfl,rfl⟩⟩
 have t:jo a b=Kg a (qU 0 v):=by rw[P];rfl
 refine kXa (KE (YP (V9 (p:=10) (by decide) rfl (by simp only[go_sem]) (wza (h.length+1) v H)
  (λn h'=>LIn [(h.length+1,.box 55 [spv v])] h h' h.length 55 143 2 (((qU 0 v).take n).map qq))
  (λn x J d=>J 5= .ptr h.length 0/\∃s j,(qU 0 v)[n]? =some s/\J 6= .ptr j 0/\d[j]? =some (.box 143 (qq s))/\LIn [(h.length+1,.box 55 [spv v])] h d h.length 55 143 2 (((qU 0 v).take n).map qq))
  ?_ (λn h' M K k=>k.app K) (λn h' k=>k.keep (.head _)) ?_ ?_ ?_ ?_ ?_) ?_))
 ·exact λM K=>base.app K
 ·intro M K
  exact(base.app K).anyR _
 ·intro n h' j l o ks us o' R k G
  exact k.raw (Nat.le_trans (by rw[ze];exact Nat.le_add_right _ _) R) G
 ·rintro n x J d j l o ks us o' R ⟨t5,s,m,S,N,B,k⟩ G
  refine⟨t5,s,m,S,N,?_,k.raw (Nat.le_trans (by rw[ze];exact Nat.le_add_right _ _) R) G⟩
  have:j≠m:=λe=>by rw[e,B] at G;cases G
  rw[zc this];exact B
 ·intro Y l n x h' f k
  rw[zr] at f
  cases O:(qU 0 v)[n]? with
  | none=>rw[O] at f;cases f
  | some s=>
    rw[O] at f
    injection f with f
    subst f
    refine ZR (by decide) (by decide) ?_
    simp only[go_sem,Zka,Wo]
    exact⟨⟨s,h'.length,rfl,rfl,by rw[zM rfl];rfl,k.app (zF rfl)⟩,.app,.app⟩
 ·rintro Y l n x J d f ⟨t5,s,m,S,N,B,k⟩
  obtain⟨V,c,w⟩:=k.at_
  refine YK (ZR (by decide) (by decide) ?_)
  have E:(((qU 0 v).take n).length+1)*17<=140737488355328:=by rw[zX];omega
  have u:((qU 0 v).take n).map qq++[qq s]=((qU 0 v).take (n+1)).map qq:=by
   obtain⟨hn,O⟩:=zd.1 S
   rw[<-zD hn,zy,O];rfl
  have hi:=k.lt
  rcases w with⟨rfl,F⟩|⟨id,st,X,rfl,A⟩
  ·rw[F,List.nil_append] at u
   have g:∀M,(d++M)[h.length]? =some (.box 55 [.v (.slice none 0 0)]):=λM=>zf c
   simp only[go_sem,t5,N,B,c,g]
   have q:=k.push_nil (M:=[.row 143 2 [qq s] 0,.row 143 2 [qq s] 0]) (zp rfl (zF rfl)) (id:=d.length+1) (by omega) (by rw[zN (k:=1) rfl];rfl)
   refine⟨by rw[<-u];exact q,k.raws,KeepB.app.trans (.setL (by omega))⟩
  ·have W:∀M,(d++M)[id]? =some (.row 143 2 (((qU 0 v).take n).map qq) st):=λM=>zf A
   have g:∀M,(d++M)[h.length]? =some (.box 55 [.tl id st]):=λM=>zf c
   have T:id≠h.length:=λq=>by rw[q,c] at A;cases A
   have I:∀M o',((d++M).set id o')[h.length]? =some (.box 55 [.tl id st]):=λM o'=>by
    rw[zc T];exact g M
   simp only[go_sem,t5,N,B,c,g,W,I,zb,E]
   have q:=k.push_own (M:=[.row 143 2 [qq s] 0]) (zF rfl) X A (rows':=((qU 0 v).take (n+1)).map qq)
   refine⟨by rw[<-u] at q ⊢;exact q,k.raws_own A,(KeepB.app.trans (.setR (zf A))).trans (.setL (by omega))⟩
 ·rintro e ds J d ⟨rfl,rfl,D,id,rfl,hid,C,k⟩
  rw[ze] at hid
  rw[zb,zY] at k
  obtain⟨V,c,w⟩:=k.at_
  have i:=k.pre
  refine⟨rfl,(xM (by decide) ?_:Jn _ _ _ _ _ _ _ _)⟩
  simp only[go_sem,c]
  have U:SlOf d x 2 (a.map qq):=by
   obtain⟨L,rfl,_⟩:=i
   exact f.app _
  refine zi (Kta _ x V a (qU 0 v) U w.rows ha (by omega)) ?_
  rintro _ h6 ⟨rfl,rfl⟩
  simp only[go_sem]
  refine kXa (YQ (by decide) ?_)
  simp only[go_sem]
  exact Zpa (.inr ⟨D,id,rfl,by omega,C⟩) i (r:=spv (Kg a (qU 0 v))) (λ_=>rfl) (Z4 _) (by rw[t])
theorem Waa(h:List Ob)(x:AV)(l:List Spn)(n:Int)(c:SlOf h x 2 (l.map qq))(t:l.length<524288)(u:Fit n):
  ACalls Tryz.prog 284 [x,i64 n] h λr h'=>r=spv (JV l n)/\h'=h:=by
 refine JN ?_
 refine zl Tryz.f284 [.tmp 4] 16 rfl rfl rfl rfl rfl rfl (by decide) (⟨_,_,⟨.inl rfl,rfl⟩,.refl⟩) λB=>?_
 simp only[go_sem]
 refine ways (λe=>?_) (λe=>?_)
 ·simp only[go_sem]
  exact⟨_,rfl,.inl ⟨.inr ⟨rfl,by unfold JV;rw[if_pos (of_decide_eq_true e)];rfl⟩,rfl⟩⟩
 ·have a:¬ n<=0:=of_decide_eq_false e
  simp only[go_sem]
  refine zi (k0a _ x l c (by omega)) ?_
  rintro _ q ⟨rfl,rfl⟩
  have i:=Wk (l:=qg l) (λs o=>kE s o)
  have g:=z6 l
  obtain⟨m,d⟩:∃m:Int,m=if 32054400<n then 32054400 else n:=⟨_,rfl⟩
  have b:m=min n 32054400:=by rw[d];split<;>omega
  have j:0<m/\m<=32054400:=by omega
  have k:IntKind.wrap .i64 (jy (qg l) - m)=jy (qg l) - m:=qb (n:=jy (qg l) - m) (by unfold Fit;omega)
  simp only[go_sem, <-d,k]
  refine zi (zWa _ x l _ c (by omega) (by unfold Fit;omega)) ?_
  rintro _ v ⟨rfl,rfl⟩
  simp only[go_sem]
  have f:(qv l (jy (qg l) - m)).length<=(qg l).length:=xu _ _
  refine zi (JX _ x _ l (qv l (jy (qg l) - m)) c (jK _) (by omega) (by omega)) ?_
  rintro _ p ⟨rfl,rfl⟩
  simp only[go_sem]
  exact⟨_,rfl,.inl ⟨.inl (by unfold JV;rw[if_neg a, <-b];rfl),rfl⟩⟩
open Go.RowKit
attribute [go_sem] XHa XIa Kja VSa Yga Xsa Vha Via Xta Vja Vka Vla Vma Vna Voa Xua Xva Xwa Xxa Xya Xza Vpa Vqa Vra Vsa Vta Vua Vva Vwa Vxa Vya Vza VAa y6a y7a XAa VBa VCa VDa W0a VEa VFa XBa VGa VHa Q0a y8a VIa VJa VKa XCa XDa Q1a VLa Q2a VMa y9a y5a XEa wja Q3a VNa ty3 Vda VOa VPa Q4a XFa VQa W1a XGa W2a VRa Kia ty4 W3a Vea W4a ty5 Vfa Vga W5a W6a W7a W8a W9a Q5a Yaa Yba Yca Yda ty9 Yea Yfa
theorem YV(z:Array Value)(k:Nat):(Builtin.zeroCells z k).size=k*z.size:=by
 simp[Builtin.zeroCells]
theorem Jia:∃i z,Tryz.prog.info? 143=some i/\i.zero=some z/\i.size=2/\i.bytes=16/\z.cells.size=2:=by
 have h:(Tryz.prog.info? 143).map (λi=>(i.zero,i.size,i.bytes))=some (some (.agg #[.int .i64 0,.int .i64 0]),2,16):=by kernel_rfl
 cases hi:Tryz.prog.info? 143 with
 | none=>rw[hi] at h;cases h
 | some i=>
   rw[hi] at h
   injection h with h
   injection h with h1 h2
   injection h2 with h2 h3
   exact⟨i,_,rfl,h1,h2,h3,rfl⟩
set_option maxHeartbeats 1000000 in
theorem Zxa(n:Nat)(w:World)(t:n<=1000000000000):Calls Tryz.prog 245 #[.slice none 0 0,.int .i64 (n:Int)] w λe w'=>∃v,e= .returned v/\Below w.heap.size w w'/\w'.ownsRow w.heap.size 143 2 v 0 []/\∀b,v.ownBlock=some b->w.heap.size<=b:=by
 by_cases h0:n=0
 ·subst h0
  go_enter Tryz.func245,Tryz.ntmps245
  go_wp2
  go_ret
  exact⟨_,rfl,Below.refl _ _,World.ownsRow_nil _ _ _ _,λb c=>by cases c⟩
 ·obtain⟨i,z,hi,l,q,c,g⟩:=Jia
  have f:∀ty,(Builtin.append_ #[55,3] ty #[.slice none 0 0,.int .i64 (n:Int)]).run Tryz.prog w=
    .ok (.slice (some ⟨w.heap.size,0,none⟩) n (grownCap w n 0 143)) (w.drew.alloc (.cells (#[]++Builtin.zeroCells z.cells n++Builtin.zeroCells z.cells (grownCap w n 0 143 - n)) 143)):=λty=>by
   have h:=Lib.run_append_grow_zeros w 55 3 ty 143 i z .i64 .i64 Tryz.underlying55 Tryz.underlying3 hi l none 0 0 [] (run_firstCells_none w.drew i.size 0 0 0) n (by omega) (by omega) (by omega) (by omega)
    (by rw[c];omega) (by rw[Nat.zero_add];exact growslice_fits (by omega) (by rw[c];omega))
   rw[Nat.zero_add] at h
   exact h
  have k:n<=grownCap w n 0 143:=grownCap_ge w _ _ _
  have a:=grownCap_le_maxLen w n 0 143 (by unfold maxLen;omega)
  obtain⟨G,o⟩:∃G,G=grownCap w n 0 143:=⟨_,rfl⟩
  rw[<-o] at f k a
  obtain⟨cs,d⟩:∃cs,cs=(#[]++Builtin.zeroCells z.cells n++Builtin.zeroCells z.cells (G - n):Array Value):=⟨_,rfl⟩
  rw[<-d] at f
  have j:cs.size=G*2:=by rw[d];simp only[Array.size_append,YV,g];simp;omega
  have p:G<=9223372036854775807:=by unfold maxLen at a;omega
  have m:(0:Int)<(n:Int):=by omega
  have r:=Lib.hid (show(w.drew.alloc (.cells cs 143)).ownsRow w.heap.size 143 2 (.slice (some ⟨w.heap.size,0,none⟩) 0 G) 0 [] from
   ⟨rfl,.inr ⟨w.heap.size,G,cs,rfl,zo _,heap_alloc_new w.drew _,Nat.zero_le _,a,j,by simp⟩⟩)
  have s:=Lib.hid (show Below w.heap.size w (w.drew.alloc (.cells cs 143)) from(show Below w.heap.size w w.drew from⟨rfl,rfl,rfl,zo _,λ_ _=>rfl⟩).alloc (zo _) _)
  clear o d q c l hi j a g
  go_enter Tryz.func245,Tryz.ntmps245
  go_wp2_with (at_builtin;refine Lib.wpList_append_run _ rfl _ _ _ _ rfl _ _ rfl rfl _ _ (f _) ?_)
  go_ret
  exact⟨_,rfl,s.out,r.out,λb c=>by injection c with c;subst c;exact zo _⟩
theorem Wba(h:List Ob)(n:Nat)(u:n<=1000000000000):ACalls Tryz.prog 245 [.v (.slice none 0 0),i64 n] h λr h'=>r= .tl h.length 0/\h'=h++[.row 143 2 [] 0]:=by
 refine⟨rfl,⟨_,_,⟨rfl,rfl⟩,q8⟩,λφ s B w g vs y hB a=>?_⟩
 obtain⟨o,A,rfl,f,t,z,rfl,c,b⟩:=a
 have f:o= .slice none 0 0:=f
 have c:t= .int .i64 (n:Int):=c
 have b:z=[]:=b
 subst f c b
 refine(Zxa n w u).mono λe w' ⟨v,p,m,i,q⟩=>?_
 obtain⟨k1,k2⟩:=Qo y hB (ty:=143) (e:=2) (by decide) (xs:=[]) (λx k=>by cases k) 0 m ⟨i.1,i.2.imp id λ⟨g,cap,cur,j,l,r⟩=>⟨g,cap,cur,j,Nat.le_trans hB l,r⟩⟩ rfl q
 rw[qT] at k1 k2
 have d:fill φ (h++[.row 143 2 [] 0])=fill φ h++[.row 143 2 [] 0]:=jO s
 rw[<-d] at k1 k2
 exact⟨v,_,_,_,p,⟨rfl,rfl⟩,q8,k1,k2⟩
theorem zYa(l:List Spn):((l.map qq).all λr=>r.length==2 && r.all AV.one)=true:=by
 rw[zL]
 intro r a
 obtain⟨s,_,rfl⟩:=zx.1 a
 rfl
def ym(xs:List (AV × List Spn)):List Spn:=xs.flatMap (·.2)
theorem YW{xs:List (AV × List Spn)}{k:Nat}(h:k<xs.length):ym (xs.take (k+1))=ym (xs.take k)++xs[k].2:=by
 unfold ym
 rw[<-zD h,List.flatMap_append];simp
theorem k2a(xs:List (AV × List Spn))(k:Nat):(ym (xs.take k)).length<=(ym xs).length:=by
 conv=>rhs;rw[<-qr k xs]
 simp only[ym,List.flatMap_append,ze]
 omega
theorem Zya(h:List Ob)(p:AV)(xs:List (AV × List Spn))(A:SlOf h p 1 (xs.map λq=>[q.1]))(G:∀q∈xs,SlOf h q.1 2 (q.2.map qq))(J:xs.length<1048576)(K:(ym xs).length<1073741824):
  ACalls Tryz.prog 188 [p] h λr h'=>∃L,h'=h++L/\NoRes L/\New h 2 r ((ym xs).map qq) L:=by
 have hex:∃r h',(∃L,h'=h++L/\NoRes L/\New h 2 r ((ym xs).map qq) L)/\ResK h h':=
  ⟨.sl 2 _,_,⟨[],rfl,xr,λ_ _=>⟨rfl,λ_=>rfl⟩⟩,q8⟩
 have y:=A.rows
 refine zl Tryz.f188 [.tmp 2] 36 rfl rfl rfl rfl rfl rfl (by decide) (hex) λB=>?_
 simp only[go_sem,y,zb]
 refine zO (by decide) (λm T h'=>∃i:Nat,i<=xs.length/\h'=h/\T 0=p/\T 3=i64 (ym (xs.take i)).length/\T 9=p/\T 10=i64 xs.length/\T 11=i64 i/\m=xs.length - i) xs.length
  ⟨0,by omega,rfl,by simp only[go_sem],by(simp only[go_sem]<;>rfl),by simp only[go_sem],by(simp only[go_sem]<;>rfl),by(simp only[go_sem]<;>rfl),rfl⟩ ?_
 rintro m T h' ⟨i,hi,rfl,t0,t3,t9,t10,d,rfl⟩
 simp only[go_sem,t10,d]
 refine ways (λe=>?_) (λe=>?_)
 ·have b:=dlt e
  have c:(xs.map λq=>[q.1])[i]? =some [xs[i].1]:=by rw[zr,zh b];rfl
  have j:(i:Int)<xs.length:=by omega
  have k:=G _ (zw b)
  have a:=YW b
  have t:=k2a xs (i+1)
  obtain⟨q,s⟩:∃q,q=xs[i]:=⟨_,rfl⟩
  rw[<-s] at c k a
  have f:=k.rows
  have o:=A.at (i:=i) (by rw[zb];exact b)
  have g:=k.cells
  rw[a,ze] at t
  have H:IntKind.wrap .i64 (((ym (xs.take i)).length:Int)+(q.2.length:Int))=((ym (xs.take (i+1))).length:Int):=by
   rw[a,ze]
   exact(qb (n:=((ym (xs.take i)).length:Int)+(q.2.length:Int)) (by unfold Fit;omega)).trans (by omega)
  simp only[go_sem,t3,t9,d,o,c,y,j,g,f,H,zb,Int.toNat_natCast,zg]
  have I:decide (((ym (xs.take (i+1))).length:Int)<0)=false:=by rw[decide_eq_false_iff_not];omega
  simp only[go_sem,I,d]
  exact⟨xs.length - (i+1),by omega,i+1,by omega,t0,rfl,t9,t10,qc (by omega) rfl,rfl⟩
 ·have E:=xc e
  have u:i=xs.length:=by omega
  subst u
  rw[zY] at t3
  simp only[go_sem,t3]
  refine zi (Wba _ (ym xs).length (by omega)) ?_
  rintro _ F ⟨rfl,rfl⟩
  have C:=(A.app [.row 143 2 [] 0]).rows
  simp only[go_sem,t0,C,zb]
  refine zO (by decide) (λm T F=>∃(i st:Nat),i<=xs.length/\F=h'++[.row 143 2 ((ym (xs.take i)).map qq) st]/\T 6= .tl h'.length st/\T 25=p/\T 26=i64 xs.length/\T 27=i64 i/\m=xs.length - i) xs.length
   ⟨0,0,by omega,rfl,by simp only[go_sem],by simp only[go_sem],by(simp only[go_sem]<;>rfl),by(simp only[go_sem]<;>rfl),rfl⟩ ?_
  clear t0 t9 t10 t3 d
  rintro m T F ⟨i,st,hi,rfl,t6,t25,z,w,rfl⟩
  simp only[go_sem,z,w]
  refine ways (λe=>?_) (λe=>?_)
  ·have b:=dlt e
   have c:(xs.map λq=>[q.1])[i]? =some [xs[i].1]:=by rw[zr,zh b];rfl
   have j:(i:Int)<xs.length:=by omega
   have k:=G _ (zw b)
   have a:=YW b
   have t:=k2a xs (i+1)
   obtain⟨q,s⟩:∃q,q=xs[i]:=⟨_,rfl⟩
   rw[<-s] at c k a
   have v:=(A.app [.row 143 2 ((ym (xs.take i)).map qq) st]).rows
   have f:=(k.app [.row 143 2 ((ym (xs.take i)).map qq) st]).rows
   have g:=k.cells
   have o:=(A.app [.row 143 2 ((ym (xs.take i)).map qq) st]).at (i:=i) (by rw[zb];exact b)
   have D:=zYa q.2
   rw[a,ze] at t
   have x:((ym (xs.take i)).length+q.2.length)*17<=140737488355328:=by omega
   have l:(h'++[.row 143 2 ((ym (xs.take i)).map qq) st])[h'.length]? =some (.row 143 2 ((ym (xs.take i)).map qq) st):=by rw[zM rfl];rfl
   simp only[go_sem,t6,t25,w,o,D,c,v,j,g,f,x,l,zb,Int.toNat_natCast,zg]
   exact⟨xs.length - (i+1),by omega,i+1,st+1,by omega,by rw[a,zy],rfl,z,qc (by omega) rfl,rfl⟩
  ·have E:=xc e
   have u:i=xs.length:=by omega
   subst u
   simp only[go_sem,t6]
   exact⟨_,rfl,.inl ⟨_,rfl,zF rfl,OwnS.new (h0:=h') (ty:=143) (.inr ⟨h'.length,st,zo _,rfl,by rw[zY,zM rfl];rfl⟩) (zo _)⟩⟩
end Go.Proofs.YtigdlmpjijhpaaaGreat.Ax
namespace Go.Proofs.YtigdlmpjijhpaaaGreat.Ax
open Go Go.Proofs
set_option maxRecDepth 100000
theorem SIn.ones{h:List Ob}{s:Setup}{a:SA}(k:SIn h s a):AV.one a.w=true/\AV.one a.e=true/\AV.one a.c=true/\AV.one a.g=true/\AV.one a.r=true/\AV.one a.t=true:=⟨k.w.one,k.e.one,k.c.one,k.g.one,k.r.one,k.t.one⟩
structure Times (s:Setup):Prop where
 unit:1<=s.unit/\s.unit<=3600
 cap:60<=s.cap/\s.cap<=57600
 paidBreak:0<=s.paidBreak/\s.paidBreak<=86400
 autoAfter:0<=s.autoAfter/\s.autoAfter<=86400
 autoBreak:0<=s.autoBreak/\s.autoBreak<=86400
 nightFrom:0<=s.nightFrom/\s.nightFrom<=86400
 nightTo:0<=s.nightTo/\s.nightTo<=86400
 dayOver:0<=s.dayOver/\s.dayOver<=86400
 dayReg:0<=s.dayReg/\s.dayReg<=s.dayOver
 weekReg:0<=s.weekReg/\s.weekReg<=604800
theorem Kk{s:Setup}(h:qo s=true):Times s:=by
 have h0:=Zd h
 simp only[qo,vY,zj] at h
 have a:=h.1.2.1.1.2
 exact⟨h0.1,h0.2,vC a (by simp),vC a (by simp),vC a (by simp),vC a (by simp),vC a (by simp),vC a (by simp),Zx h.1.2.1.2,Zx h.1.2.2⟩
def JY(s:Setup):List Spn:=if s.nightTo<s.nightFrom then [⟨0,s.nightTo⟩,⟨s.nightFrom,86400⟩] else [⟨s.nightFrom,s.nightTo⟩]
theorem Jqa{s:Setup}(t:Times s){w:Spn}(h:w∈JY s):(0<=w.from_/\w.from_<=86400)/\0<=w.to_/\w.to_<=86400:=by
 have b:=t.nightFrom
 have a:=t.nightTo
 unfold JY at h
 split at h
 ·rcases zH.1 h with rfl|h
  ·simp only;omega
  ·rw[zJ] at h;subst h;simp only;omega
 ·rw[zJ] at h;subst h;simp only;omega
theorem jra(s:Setup):(JY s).length<=2:=by unfold JY;split<;>simp
theorem ZKa(h:List Ob)(s:Setup)(a:SA)(k:SIn h s a):
  ACalls Tryz.prog 191 [jm s a] h λr h'=>r=spv (JY s)/\h'=h:=ve (by decide) (Z4 _) <| by
 have hex:∃r h',(∃L,h'=h++L/\NoRes L/\New h 2 r ((JY s).map qq) L)/\ResK h h':=
  ⟨.sl 2 _,_,⟨[],rfl,xr,λ_ _=>⟨rfl,λ_=>rfl⟩⟩,q8⟩
 refine zl Tryz.f191 [.tmp 2] 21 rfl rfl rfl rfl rfl rfl (by decide) (hex) λB=>?_
 simp only[go_sem,k.ones]
 refine ways (λe=>?_) (λe=>?_)
 ·have b:JY s=[⟨0,s.nightTo⟩,⟨s.nightFrom,86400⟩]:=by unfold JY;rw[if_pos (of_decide_eq_true e)]
  rw[b]
  simp only[go_sem,k.ones]
  exact XD (ty:=143) (x:= .tl (h.length+1) 0) (by simp only[go_sem]) ⟨_,rfl,zp rfl (zF rfl)⟩ (.inr ⟨_,_,by omega,rfl,by rw[zN (k:=1) rfl];rfl⟩)
 ·have b:JY s=[⟨s.nightFrom,s.nightTo⟩]:=by unfold JY;rw[if_neg (of_decide_eq_false e)]
  rw[b]
  simp only[go_sem,k.ones]
  exact XD (ty:=143) (x:= .tl (h.length+1) 0) (by simp only[go_sem]) ⟨_,rfl,zp rfl (zF rfl)⟩ (.inr ⟨_,_,by omega,rfl,by rw[zN (k:=1) rfl];rfl⟩)
def QP(s:Setup)(d:Int):List Spn:=((JY s).filter λw=>decide (w.from_<w.to_)).map λw=>⟨d*86400+w.from_,d*86400+w.to_⟩
def yQ(d:Int)(o:List Spn)(w:Spn):List Spn:=if w.from_<w.to_ then o++[⟨d*86400+w.from_,d*86400+w.to_⟩] else o
theorem KN(d:Int):∀(l o:List Spn),l.foldl (yQ d) o=o++(l.filter λw=>decide (w.from_<w.to_)).map λw=>⟨d*86400+w.from_,d*86400+w.to_⟩
 | [],o=>by simp
 | w::l,o=>by
   rw[List.foldl_cons,KN d l,List.filter_cons]
   unfold yQ
   by_cases h:w.from_<w.to_<;>simp[h]
theorem Jra(F:List (Nat × Ob))(h0 h:List Ob)(b:List Spn)(i j:Nat)(s:Setup)(a:SA)(k:LIn F h0 h i 55 143 2 (b.map qq))(ks:SIn h s a)(t:Times s)(hj:(j,Ob.box 30 (qa s a))∈F)(hl:b.length<1099511627776)(d:Int)(hd:0<=d/\d<371):
  ACalls Tryz.prog 190 [i64 d,.ptr j 0,.ptr i 0] h λr h'=>r= .tup []/\LIn F h0 h' i 55 143 2 ((b++QP s d).map qq):=by
 have hex:∃r h',(r=AV.tup []/\LIn F h0 h' i 55 143 2 ((b++QP s d).map qq))/\ResK h h':=by
  obtain⟨h',q1,Y⟩:=k.any ((b++QP s d).map qq)
  exact⟨_,h',⟨rfl,q1⟩,Y⟩
 have J:h[j]? =some (.box 30 (qa s a)):=k.keep hj
 refine zl Tryz.f190 [] 33 rfl rfl rfl rfl rfl rfl (by decide) (hex) λB=>?_
 simp only[go_sem,J,ks.ones]
 refine zi (ZKa _ s a ks) ?_
 rintro _ h4 ⟨rfl,rfl⟩
 have D:b++QP s d=((JY s).take (JY s).length).foldl (yQ d) b:=by rw[zY,KN];rfl
 rw[D]
 have H:=jra s
 have g:= @Jqa s t
 obtain⟨v,Z⟩:∃v,v=JY s:=⟨_,rfl⟩
 rw[<-Z] at H g⊢
 obtain⟨W,S⟩:∃W,W=(v.take v.length).foldl (yQ d) b:=⟨_,rfl⟩
 rw[<-S]
 simp only[go_sem,zb]
 refine zO (by decide) (λm T h'=>∃(n:Nat) (o:List Spn),n<=v.length/\o=(v.take n).foldl (yQ d) b/\o.length<=b.length+n/\LIn F h0 h' i 55 143 2 (o.map qq)/\T 0=i64 d/\T 2= .ptr i 0/\T 7=spv v/\T 8=i64 v.length/\T 9=i64 n/\m=v.length - n) v.length
  ⟨0,b,by omega,rfl,by omega,k,by simp only[go_sem],by simp only[go_sem],by simp only[go_sem],by(simp only[go_sem]<;>rfl),by(simp only[go_sem]<;>rfl),rfl⟩ ?_
 rintro m T h' ⟨n,o,hn,K,ζ,k',t0,t2,E,t8,t9,rfl⟩
 simp only[go_sem,t8,t9]
 refine ways (λe=>?_) (λe=>?_)
 ·have w:=dlt e
  have f:=Z5 w
  have I:(n:Int)<v.length:=by omega
  have hb:=g (zw w)
  have c:(v.take (n+1)).foldl (yQ d) b=yQ d o v[n]:=by rw[<-zD w,jb, <-K];rfl
  obtain⟨z,hz⟩:∃z,z=v[n]:=⟨_,rfl⟩
  rw[<-hz] at f c hb
  have R:IntKind.wrap .i64 (d*86400)=d*86400:=qb (n:=d*86400) (by unfold Fit;omega)
  have V:IntKind.wrap .i64 (d*86400+z.from_)=d*86400+z.from_:=qb (n:=d*86400+z.from_) (by unfold Fit;omega)
  have U:IntKind.wrap .i64 (d*86400+z.to_)=d*86400+z.to_:=qb (n:=d*86400+z.to_) (by unfold Fit;omega)
  simp only[go_sem,E,t9,f,I,zb,Int.toNat_natCast,zg]
  refine ways (λp=>?_) (λp=>?_)
  ·have p:=of_decide_eq_true p
   have l:yQ d o z=o++[⟨d*86400+z.from_,d*86400+z.to_⟩]:=by unfold yQ;rw[if_pos p]
   obtain⟨x,Q,O⟩:=k'.at_
   have u:∀M,(h'++M)[i]? =some (.box 55 [x]):=λM=>zf Q
   have y:(o.length+1)*17<=140737488355328:=by omega
   rcases O with⟨rfl,A⟩|⟨id,st,u1,rfl,G⟩
   ·simp only[go_sem,t0,t2,t9,u,R,V,U]
    refine⟨v.length - (n+1),by omega,n+1,_,by omega,c.symm,by rw[l];simp;omega,?_,E,t8,qc (by omega) rfl,rfl⟩
    rw[l,zy,A]
    exact k'.push_nil (zp rfl (zp rfl (zF rfl))) (by omega) (by rw[zN (k:=2) rfl];rfl)
   ·have L:∀M,(h'++M)[id]? =some (.row 143 2 (o.map qq) st):=λM=>zf G
    have N:id≠i:=λq=>by rw[q,Q] at G;cases G
    have C:∀M o',((h'++M).set id o')[i]? =some (.box 55 [.tl id st]):=λM o'=>by
     rw[zc N];exact u M
    simp only[go_sem,t0,t2,t9,u,L,C,y,R,V,U,zb]
    refine⟨v.length - (n+1),by omega,n+1,_,by omega,c.symm,by rw[l];simp;omega,?_,E,t8,qc (by omega) rfl,rfl⟩
    rw[l,zy]
    exact k'.push_own (zp rfl (zF rfl)) u1 G
  ·have p:=of_decide_eq_false p
   have l:yQ d o z=o:=by unfold yQ;rw[if_neg p]
   simp only[go_sem,t9]
   exact⟨v.length - (n+1),by omega,n+1,_,by omega,c.symm,by rw[l];omega,by rw[l];exact k'.app (zF rfl),t0,t2,E,t8,qc (by omega) rfl,rfl⟩
 ·have X:=xc e
  have P:n=v.length:=by omega
  subst P
  rw[<-S] at K
  subst K
  simp only[go_sem]
  exact⟨_,rfl,.inl ⟨rfl,k'⟩⟩
theorem ZLa{o:List Int}{d:Int}(f:o.Pairwise (· < ·))(i:∀x∈o,0<=x/\x<371)(g:0<=d/\d<371):(JW o d).Pairwise (· < ·)/\∀x∈JW o d,0<=x/\x<371:=by
 unfold JW
 cases j:o.getLast? with
 | none=>
   refine⟨by simp,λx c=>?_⟩
   have c:x=d:=by simpa using c
   subst c;exact g
 | some z=>
   simp only
   split
   ·rename_i l
    obtain⟨q,rfl⟩:∃q,o=q++[z]:=by
     obtain⟨q,k⟩:=List.getLast?_eq_some_iff.1 j
     exact⟨q,k⟩
    refine⟨?_,λx c=>?_⟩
    ·rw[qG]
     refine⟨f,by simp,λa e b h=>?_⟩
     rw[zJ] at h
     subst h
     rw[qG] at f
     rcases zK.1 e with e|e
     ·have:=f.2.2 a e z (by simp);omega
     ·rw[zJ] at e;omega
    ·rcases zK.1 c with c|c
     ·exact i x c
     ·rw[zJ] at c;subst c;exact g
   ·exact⟨f,i⟩
theorem jsa{o:List Int}{a:Int}(c:o.Pairwise (· < ·))(b:∀x∈o,0<=x/\x<371)(f:0<=a):∀k:Nat,a+k<=371->(Yd o a k).Pairwise (· < ·)/\∀x∈Yd o a k,0<=x/\x<371
 | 0,_=>⟨c,b⟩
 | k+1,h=>by
   obtain⟨e,d⟩:=jsa c b f k (by omega)
   exact ZLa e d (by omega)
theorem kJ(l:List Spn):(qA l).Pairwise (· < ·)/\∀x∈qA l,0<=x/\x<371:=by
 have key:∀(v:List Spn) (o:List Int),o.Pairwise (· < ·)->(∀x∈o,0<=x/\x<371)->(v.foldl vm o).Pairwise (· < ·)/\∀x∈v.foldl vm o,0<=x/\x<371:=λv=>by
  induction v with
  | nil=>exact λo b a=>⟨b,a⟩
  | cons s v c=>
    intro o b a
    rw[List.foldl_cons]
    have d:=wz s.from_
    have e:=wz (s.to_ - 1)
    have:=jsa b a d.1 (vK (s.to_ - 1) - vK s.from_+1).toNat (by omega)
    exact c _ this.1 this.2
 exact key _ [] .nil (by simp)
theorem Jsa{o:List Int}(d:o.Pairwise (· < ·))(a:∀x∈o,0<=x/\x<371):o.length<=371:=by
 have e:o.Nodup:=d.imp λh=>by omega
 have:=Jc (b:=(List.range 371).map λ(k:Nat)=>(k:Int)) e λx c=>by
  have:=a x c
  exact zx.2 ⟨x.toNat,by rw[jg];omega,by omega⟩
 simpa using this
theorem wQ(l:List Spn):(qA l).length<=371:=Jsa (kJ l).1 (kJ l).2
def vn(s:Setup)(l:List Int):List Spn:=l.flatMap (QP s)
def jL(s:Setup)(l:List Spn):List Spn:=if qo s then Kg l (vn s (qA l)) else []
theorem x9a(s:Setup)(d:Int):(QP s d).length<=2:=by
 unfold QP
 rw[zb]
 have b:=qt (λw:Spn=>decide (w.from_<w.to_)) (JY s)
 have a:=jra s
 omega
theorem Z7(s:Setup):∀l:List Int,(vn s l).length<=2*l.length
 | []=>by simp[vn]
 | d::l=>by
   have a:=Z7 s l
   have b:=x9a s d
   unfold vn at a⊢
   rw[List.flatMap_cons,ze,List.length_cons];omega
theorem XK{l:List Int}{i:Nat}(h:i<l.length):(l.map qI)[i]? =some [i64 l[i]]:=by rw[zr,zh h];rfl
theorem Jta(h:List Ob)(s:Setup)(a:SA)(k:SIn h s a)(f:SFit s)(x:AV)(l:List Spn)(J:SlOf h x 2 (l.map qq))(I:l.length<1048576):
  ACalls Tryz.prog 118 [jm s a,x] h λr h'=>(r=spv (jL s l)∨r= .v (.slice none 0 0)/\jL s l=[])/\h'=h:=by
 have hex:∃r h',((r=spv (jL s l)∨r=AV.v (.slice none 0 0)/\jL s l=[])/\h'=h)/\ResK h h':=⟨_,_,⟨.inl rfl,rfl⟩,.refl⟩
 refine zl Tryz.f118 [.tmp 4] 30 rfl rfl rfl rfl rfl rfl (by decide) (hex) λB=>?_
 simp only[go_sem,k.ones]
 refine zi (c16 _ s a (k.app _) f) ?_
 rintro _ P ⟨rfl,K⟩
 rw[K]
 clear K P
 cases i:qo s
 ·have q:jL s l=[]:=by unfold jL;rw[i];rfl
  simp only[go_sem,i,qE,Bool.not_false]
  exact⟨_,by simp only[go_sem],.inr ⟨h,_,rfl,rfl,rfl,.refl,.inr ⟨rfl,q⟩,rfl⟩⟩
 have q:jL s l=Kg l (vn s (qA l)):=by unfold jL;rw[if_pos i]
 have X:=Kk i
 simp only[go_sem,i,qE,Bool.not_true]
 refine zi (Zwa _ x l (J.app _) I) ?_
 rintro _ P ⟨rfl,rfl⟩
 have u:=(kJ l).2
 have D:=wQ l
 have c:vn s (qA l)=vn s ((qA l).take (qA l).length):=by rw[zY]
 have j:=Z7 s (qA l)
 rw[c] at q
 rw[c] at j
 obtain⟨v,R⟩:∃v,v=qA l:=⟨_,rfl⟩
 rw[<-R] at u D q j⊢
 simp only[go_sem,zb]
 obtain⟨F,M⟩:∃F,F=[(h.length,Ob.box 30 (qa s a))]:=⟨_,rfl⟩
 have p:(h.length,Ob.box 30 (qa s a))∈F:=by rw[M];simp
 refine zO (by decide) (λm T h'=>∃n:Nat,n<=v.length/\LIn F h h' (h.length+1) 55 143 2 ((vn s (v.take n)).map qq)/\T 1=x/\T 5= .ptr (h.length+1) 0/\T 6= .fn (.func 190) [] [.ptr h.length 0,.ptr (h.length+1) 0]/\T 7= .sl 1 (v.map qI)/\T 16=i64 v.length/\T 17=i64 n/\m=v.length - n) v.length
  ⟨0,by omega,⟨⟨_,rfl,zp rfl (zF rfl)⟩,by omega,(λz y=>by rw[M,zJ] at y;subst y;exact⟨by simp,⟨_,_,rfl⟩,by rw[zM rfl];rfl⟩),_,by rw[zN (k:=1) rfl];rfl,.inl ⟨rfl,rfl⟩⟩,by simp only[go_sem],by simp only[go_sem],by simp only[go_sem],by simp only[go_sem],by(simp only[go_sem]<;>rfl),by(simp only[go_sem]<;>rfl),rfl⟩ ?_
 rintro m T h' ⟨n,U,w,t1,t5,t6,N,o,g,rfl⟩
 simp only[go_sem,o,g]
 refine ways (λe=>?_) (λe=>?_)
 ·have d:=dlt e
  have b:=XK d
  have A:(n:Int)<v.length:=by omega
  have O:=u _ (zw d)
  have t:vn s (v.take (n+1))=vn s (v.take n)++QP s v[n]:=by unfold vn;rw[<-zD d,List.flatMap_append];simp
  have E:=Z7 s (v.take n)
  rw[zX] at E
  obtain⟨z,y⟩:∃z,z=v[n]:=⟨_,rfl⟩
  rw[<-y] at b t O
  simp only[go_sem,t6,N,g,b,A,zb,Int.toNat_natCast,zg]
  refine zi (Jra F h h' _ (h.length+1) h.length s a w (w.pre.sin k) X p (by omega) z O) ?_
  rintro _ W ⟨rfl,k6⟩
  rw[<-t] at k6
  simp only[go_sem,g]
  exact⟨v.length - (n+1),by omega,n+1,by omega,k6,t1,t5,t6,N,o,qc (by omega) rfl,rfl⟩
 ·have Q:=xc e
  have G:n=v.length:=by omega
  subst G
  obtain⟨V,C,H⟩:=w.at_
  simp only[go_sem,t1,t5,C]
  refine zi (Kta _ x V l _ (w.pre.sl J) H.rows I (by omega)) ?_
  rintro _ W ⟨rfl,rfl⟩
  rw[<-q]
  simp only[go_sem]
  obtain⟨L,S,_⟩:=w.pre
  rw[S]
  exact⟨_,by simp only[go_sem],.inr ⟨h,_,rfl,rfl,QL _,.refl,.inl rfl,rfl⟩⟩
theorem KDa(h:List Ob)(s:Setup)(a:SA)(k:SIn h s a)(f:SFit s)(x:AV)(l:List Spn)(c:SlOf h x 2 (l.map qq))(b:l.length<1048576):
  ACalls Tryz.prog 118 [jm s a,x] h λr h'=>r=spv (jL s l)/\h'=h:=
 JN ((Jta h s a k f x l c b).mono λr h' ⟨q,e⟩=>⟨q.imp_right λq=>⟨q.1,by rw[q.2];rfl⟩,e⟩)
