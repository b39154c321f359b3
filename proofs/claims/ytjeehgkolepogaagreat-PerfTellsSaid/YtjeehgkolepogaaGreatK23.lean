import Derived.Test.YtjeehgkolepogaaGreatK22
import Derived.Deep.SlicePairs
import Derived.WideShapes
import Derived.ChangeShapes
set_option linter.all false
namespace Go.Proofs.YtjeehgkolepogaaGreat.Ax
open Go Go.Proofs
set_option maxRecDepth 100000
attribute [go_sem] kUa kXa
def New.of{h h':List Ob}{e:Nat}{x:AV}{rows:List (List AV)}{L L2:List Ob}(a:h'=h++L)(k:New h' e x rows L2):New h e x rows (L++L2):=λc b=>by
 have:=k (c++L) (by rw[a];simp[b]);rwa[zq] at this
def NoRes.app{L M:List Ob}(a:NoRes L)(b:NoRes M):NoRes (L++M):=λo c=>by
 rcases zV.1 c with h|h
 ·exact a o h
 ·exact b o h
def c67(g:Seg):js Tryz.prog 55 [.ag (qU g)] (bl true):=λh=>by
 refine enterSX Tryz.f55 λB=>?_;exact qt
def c68(h:List Ob)(i:Nat)(g:Seg)(k:Int)(hi:h[i]? =some (.box 3 [i64 k])):ACalls Tryz.prog 57 [.ag (qU g),.ptr i 0] h λr h'=>r=bl (g.kind==k)/\h'=h:=by
 have a:∀M,(h++M)[i]? =some (.box 3 [i64 k]):=λM=>zk hi;refine enterQX Tryz.f57 λB=>?_;simp only[go_sem,a];exact qt
def kn(p:Seg->Bool)(l:List Seg):List Spn:=(l.filter p).map spS
def V2(p:Seg->Bool)(l:List Seg)(g:Seg):kn p (l++[g])=if p g then kn p l++[spS g] else kn p l:=by
 unfold kn;rw[jc,zD];cases h:p g<;>simp[h]
def Xd(p:Seg->Bool)(l:List Seg):(kn p l).length<=l.length:=by
 unfold kn;rw[zc];exact qj p l
set_option maxHeartbeats 1000000 in
def c66(h:List Ob)(x:AV)(f:FuncId)(G:List AV)(l:List Seg)(p:Seg->Bool)(P:SlOf h x 5 (l.map qU))(X:l.length<1048576)(W:∀g∈l,∀L,ACalls Tryz.prog f ([.ag (qU g)]++G) (h++L) λr h'=>r=bl (p g)/\h'=h++L):
    ACalls Tryz.prog 54 [x,.fn (.func f) [] G] h λr h'=>∃L,h'=h++L/\NoRes L/\New h 2 r ((xo (kn p l)).map qF) L:=by
 have hex:∃r h',(∃L,h'=h++L/\NoRes L/\New h 2 r ((xo (kn p l)).map qF) L)/\ResK h h':=
  ⟨.sl 2 _,_,⟨[],rfl,kR,λ_ _=>⟨rfl,λ_=>rfl⟩⟩,jp⟩
 refine enterQX Tryz.f54 (λB=>?_) (hex);simp only[go_sem,P.rows,zc]
 refine wp_loop_a ze (λm T h'=>∃k:Nat,k<=l.length/\Pre h h'/\OwnS h h' 86 2 (T 5) ((kn p (l.take k)).map qF)/\T 1= .fn (.func f) [] G/\T 8=x/\T 9=i64 l.length/\T 10=i64 k/\m=l.length - k) l.length
  ⟨0,zb,Pre.refl,.inl ⟨zo,rfl⟩,zo,zo,zo,by(simp only[go_sem]<;>rfl),rfl⟩ ?_
 rintro m T h' ⟨k,Z,b,C,t1,A,t9,c,rfl⟩;simp only[go_sem,t9,c];refine ways (λe=>?_) (λe=>?_)
 ·have j:=dlt e;obtain⟨u,rfl,z⟩:=b;have w:SlOf (h++u) x 5 (l.map qU):=P.app _;have J:=w.at (i:=k) (by simpa using j);have q:(l.map qU)[k]? =some (qU l[k]):=by rw[zw,zg j];rfl
  have E:(k:Int)<l.length:=zb;have a:=V2 p (l.take k) l[k];rw[zG j] at a;have n:l[k]∈l:=zx j;obtain⟨y,R⟩:∃y,y=l[k]:=⟨_,rfl⟩;rw[<-R] at q a n;have fin:k+1<=l.length:=zb;have hA:List.length (qU y)=5:=rfl;have d:=W y n (u++[.box 62 (qU y)]);rw[<-zq] at d;have b:Pre h (h++u):=⟨u,rfl,z⟩;generalize h++u=h' at*
  simp only[go_sem,A,c,t1,J,w.rows,q,E,zc,Int.toNat_natCast,zd];refine zl d ?_;rintro _ Y ⟨rfl,Q⟩;subst Q;refine zz ?_;refine ways (λs=>?_) (λs=>?_)
  ·rw[s] at a;simp only[if_true] at a;rcases C with⟨t5,t⟩|⟨id,st,D,t5,K⟩
   ·simp only[go_sem,t5,c];refine⟨l.length - (k+1),zb,k+1,fin,b.app (zA rfl (zA rfl (zW rfl))),.inr ⟨_,_,by have:=b.len;omega,rfl,?_⟩,t1,A,t9,qh zb rfl,rfl⟩;rw[a,zD,t,qa rfl];rfl
   ·have H:(((kn p (l.take k)).map qF).length+1)*17<=140737488355328:=by
     have:=Xd p (l.take k);rw[zT] at this;rw[zc];omega
    have O:∀M,(h'++M)[id]? =some (.row 86 2 ((kn p (l.take k)).map qF) st):=λM=>zk K;simp only[go_sem,t5,c,O,H];refine⟨l.length - (k+1),zb,k+1,fin,(b.app (zA rfl (zW rfl))).set D rfl,.inr ⟨id,st+1,D,rfl,?_⟩,t1,A,t9,qh zb rfl,rfl⟩;rw[a,zD];exact zt (O _)
  ·have s:p y=false:=(by simpa using s);rw[s] at a;simp only[Bool.false_eq_true,if_false] at a;simp only[go_sem,c];exact⟨l.length - (k+1),zb,k+1,fin,b.app (zW rfl),by rw[a];exact C.app _,t1,A,t9,qh zb rfl,rfl⟩
 ·have U:=jO e;have F:k=l.length:=zb;subst F;rw[qR] at C;have V:=Xd p l;rcases C with⟨t5,t⟩|⟨id,st,D,t5,K⟩
  ·have t:kn p l=[]:=(by simpa using t);simp only[go_sem,t5];refine zl (yla _) ?_;rintro _ I ⟨rfl,S⟩;subst S;refine zz ?_;refine zl (c65 _ (.v (.slice none 0 0)) [] ⟨rfl,λh=>absurd rfl h⟩ zh) ?_;rintro r I ⟨L2,rfl,n1,n2⟩;refine zz ?_;obtain⟨L,rfl,z⟩:=b;exact⟨r,zo,.inl ⟨L++L2,zh,z.app n1,by rw[t];exact n2.of rfl⟩⟩
  ·simp only[go_sem,t5];refine zl (c96 _ id st _ K) ?_;rintro _ I ⟨rfl,rfl⟩;refine zz ?_;refine zl (c65 _ (.sl 2 ((kn p l).map qF)) (kn p l) ⟨rfl,λ_=>rfl⟩ zb) ?_;rintro r I ⟨L2,rfl,n1,n2⟩;refine zz ?_;have b:=b.set (o:= .gone) D rfl;obtain⟨L,N,z⟩:=b;exact⟨r,zo,.inl ⟨L++L2,by rw[N];simp,z.app n1,n2.of N⟩⟩
def yY(l:List Seg):List Spn:=xo (l.map spS)
def X8(l:List Seg)(k:Int):List Spn:=xo ((l.filter λg=>g.kind==k).map spS)
def c31(h:List Ob)(x:AV)(l:List Seg)(b:SlOf h x 5 (l.map qU))(c:l.length<1048576):
    ACalls Tryz.prog 18 [x] h λr h'=>∃L,h'=h++L/\NoRes L/\New h 2 r ((yY l).map qF) L:=by
 have hex:∃r h',(∃L,h'=h++L/\NoRes L/\New h 2 r ((yY l).map qF) L)/\ResK h h':=
  ⟨.sl 2 _,_,⟨[],rfl,kR,λ_ _=>⟨rfl,λ_=>rfl⟩⟩,jp⟩
 have a:kn (λ_=>true) l=l.map spS:=by unfold kn;rw[ZM λ_ _=>rfl]
 refine enterSX Tryz.f18 (λB=>?_) (hex);refine zl (c66 h x 55 [] l (λ_=>true) b c λg _ L=>c67 g _) ?_;rintro r d ⟨L2,rfl,n1,n2⟩;refine zz ?_;exact⟨r,zo,.inl ⟨L2,rfl,n1,by rw[a] at n2;exact n2⟩⟩
def c32(h:List Ob)(x:AV)(l:List Seg)(k:Int)(a:SlOf h x 5 (l.map qU))(b:l.length<1048576):
    ACalls Tryz.prog 20 [x,i64 k] h λr h'=>∃L,h'=h++L/\NoRes L/\New h 2 r ((X8 l k).map qF) L:=by
 have hex:∃r h',(∃L,h'=h++L/\NoRes L/\New h 2 r ((X8 l k).map qF) L)/\ResK h h':=
  ⟨.sl 2 _,_,⟨[],rfl,kR,λ_ _=>⟨rfl,λ_=>rfl⟩⟩,jp⟩
 refine enterSX Tryz.f20 (λB=>?_) (hex);refine zl (c66 _ x 57 [.ptr h.length 0] l (λg=>g.kind==k) (a.app _) b λg _ L=>c68 _ _ g k (by rw[zq,qr rfl];rfl)) ?_;rintro r c ⟨L2,rfl,n1,n2⟩;refine zz ?_;exact⟨r,zo,.inl ⟨_,rfl,zA rfl n1,n2.of rfl⟩⟩
def Yl(l:List Spn)(x:Spn):vG (l++[x])=vG l+(x.to_ - x.from_):=by simp[vG]
def jTa{l:List Spn}(a:∀s∈l,0<=s.from_/\s.from_<s.to_/\s.to_<=32054400):0<=vG l/\vG l<=32054400*l.length:=by
 induction l with
 | nil=>simp[vG]
 | cons x l b=>
   have:=b λs h=>a s (.tail _ h);have:=a x (.head _);simp only[vG,List.map_cons,List.sum_cons,List.length_cons] at*
   omega
def c30(h:List Ob)(x:AV)(l:List Spn)(E:SlOf h x 2 (l.map qF))(G:l.length<1048576):
    ACalls Tryz.prog 46 [x] h λr h'=>r=i64 (vG (xo l))/\h'=h:=by
 have f:= @jPa l;have g:=qca l;obtain⟨n,z⟩:∃n,n=xo l:=⟨_,rfl⟩;rw[<-z] at f g;refine enterSX Tryz.f46 λB=>?_;refine zl (c65 _ x l E zb) ?_;rintro r I ⟨L2,rfl,n1,n2⟩;rw[<-z] at n2⊢;have A:SlOf (h++L2) r 2 (n.map qF):=n2 h rfl;simp only[go_sem,A.rows,zc]
 refine wp_loop_a ze (λm T h'=>∃k:Nat,k<=n.length/\Pre (h++L2) h'/\T 2=i64 (vG (n.take k))/\T 6=r/\T 7=i64 n.length/\T 8=i64 k/\m=n.length - k) n.length
  ⟨0,zb,Pre.refl,by(simp only[go_sem]<;>rfl),zo,zo,by(simp only[go_sem]<;>rfl),rfl⟩ ?_
 rintro m T h' ⟨k,J,a,t2,t6,v,w,rfl⟩;simp only[go_sem,v,w];refine ways (λe=>?_) (λe=>?_)
 ·have b:=dlt e;have j:=a.sl A;have u:=j.at (i:=k) (by simpa using b);have c:(n.map qF)[k]? =some (qF n[k]):=by rw[zw,zg b];rfl
  have p:(k:Int)<n.length:=zb;have d:=Yl (n.take k) n[k];rw[zG b] at d;have o:=jTa (l:=n.take k) λs h=>f s (List.mem_of_mem_take h);have t:=f _ (zx b);rw[zT] at o;obtain⟨y,C⟩:∃y,y=n[k]:=⟨_,rfl⟩;rw[<-C] at c d t;have K:List.length (qF y)=2:=rfl;simp only[go_sem,t2,t6,w,u,j.rows,c,p,zc,Int.toNat_natCast,zd];refine⟨n.length - (k+1),zb,k+1,zb,a.app (zW rfl),?_,v,qh zb rfl,rfl⟩;rw[d];show i64 (wr (vG (n.take k)+wr (y.to_ - y.from_)))=_;rw[qb (n:=y.to_ - y.from_) qg,qb qg]
 ·have D:=jO e;have q:k=n.length:=zb;subst q;rw[qR] at t2;obtain⟨H,rfl,F⟩:=a;rw[zq];simp only[go_sem,t2];exact qt
attribute [go_sem] xSa xTa qMa zBa via vja
def s0:Setup:=⟨1,[],(1,1),[((1,1),(1,1))],[(1,1)],[(1,1)],0,900,3600,0,0,0,0,0,0,0,0,[1],0,0,0,[]⟩
def l0:List Ev:=[⟨2,0,1000,3,0,0,0,0,0,0,0⟩,⟨1,0,400,1,0,0,0,0,0,0,0⟩,⟨3,0,2000,2,0,0,0,0,0,0,0⟩,⟨4,0,2001,5,0,0,0,0,0,0,0⟩,⟨5,0,9000,1,0,0,0,0,0,0,0⟩]
def p0:List Seg:=[⟨0,1000,0,1,0⟩,⟨1000,1800,1,2,0⟩,⟨9000,12600,0,5,0⟩]
def f0:List Flg:=[⟨4,3⟩,⟨5,1⟩]
def yma:qq s0 l0 0=(p0,f0):=zC
def yna:qq s0 l0 1=([],[]):=zC
def wGa:X8 p0 1=[⟨1000,1800⟩]:=by
 have h:jX ((p0.filter λg=>g.kind==1).map spS)=[⟨1000,1800⟩]:=by rfl
 unfold X8;rw[<-Zk (m:=[⟨1000,1800⟩]) (by rw[h]) zh];rfl
def K0:yY p0=[⟨0,1800⟩,⟨9000,12600⟩]:=by
 have h:jX (p0.map spS)=[⟨0,1000⟩,⟨1000,1800⟩,⟨9000,12600⟩]:=by rfl
 unfold yY;rw[<-Zk (m:=[⟨0,1000⟩,⟨1000,1800⟩,⟨9000,12600⟩]) (by rw[h]) (by simp[leS])];rfl
def wHa:vG (xo (yY p0))=5400:=by
 rw[qba]
 ·rw[K0];rfl
 ·rw[K0];simp
 ·rw[K0];simp
def wIa:SFit s0:=⟨by simp[Fit,s0],by simp[qp,Fit,s0],by simp[qp,Fit,s0],by simp[qp,Fit,s0],by simp[qp,Fit,s0],by simp[qp,Fit,s0],by simp[s0],by simp[s0],by simp[s0],by simp[s0],by simp[s0],by simp[s0]⟩
def a0(n:Nat):SA:=⟨.v (.slice none 0 0),.tl (n+1) 0,.tl (n+2) 0,.tl (n+3) 0,.tl (n+4) 0,.v (.slice none 0 0)⟩
def H0(n:Nat):List Ob:=[.box 24 (qy (1,1)),.row 82 4 (s0.elements.map wO) 0,.row 24 2 (s0.classes.map qy) 0,.row 24 2 (s0.gears.map qy) 0,.row 3 1 (s0.rates.map qQ) 0,.box 30 (zN s0 (a0 n)),.row 55 11 (l0.map evC) 0]
def Qz(h:List Ob)(k:Nat):(h++H0 h.length)[h.length+k]? =(H0 h.length)[k]? :=qa rfl
def kU{h:List Ob}{id ty e st:Nat}{xs:List (List AV)}(k:h[id]? =some (.row ty e xs st)):SlOf h (.tl id st) e xs:=⟨by rw[jR,k,vm,if_pos rfl],λ_=>by rw[vM,k,wH]⟩
def Xe{h:List Ob}{e:Nat}:SlOf h (.v (.slice none 0 0)) e []:=⟨rfl,λh=>absurd rfl h⟩
def yoa(h:List Ob):SIn (h++H0 h.length) s0 (a0 h.length):=
 ⟨Xe,kU (Qz h 1),kU (Qz h 2),kU (Qz h 3),kU (Qz h 4),Xe⟩
def c28:js Tryz.prog 11 [] (bl true):=λh=>by
 refine enterSX Tryz.f11 λB=>?_;have k:=yoa h;have f:SlOf (h++H0 h.length) (.tl (h.length+6) 0) 11 (l0.map evC):=kU (Qz h 6);have J:(h++H0 h.length)[h.length+5]? =some (.box 30 (zN s0 (a0 h.length))):=Qz h 5;refine zl (c21 (h++H0 h.length) s0 (a0 h.length) k wIa (.tl (h.length+6) 0) l0 0 f ze) ?_;rintro _ j ⟨L,y,z,rfl,n1,rfl,E,C⟩;rw[yma] at E C;generalize l:h++H0 h.length=h1 at*
 have s:∀M,(h1++M)[h.length+5]? =some (.box 30 (zN s0 (a0 h.length))):=λM=>zk J;have one:=k.app L;simp only[go_sem,s,one.w.one,one.e.one,one.c.one,one.g.one,one.r.one,one.t.one];refine zl (c21 (h1++L) s0 (a0 h.length) one wIa (.tl (h.length+6) 0) l0 1 (f.app L) ze) ?_;rintro _ j ⟨a,F,K,rfl,G,rfl,d,x⟩;rw[yna] at d x
 have i:∀M,SlOf (h1++(L++M)) y 5 (p0.map qU):=λM=>by
  rw[<-zq];exact(E h1 (by rw[<-l])).app M
 have D:∀M,SlOf (h1++(L++M)) z 2 (f0.map kZ):=λM=>by
  rw[<-zq];exact(C h1 (by rw[<-l])).app M
 have u:∀M,SlOf (h1++(L++(a++M))) F 5 []:=λM=>by
  rw[<-zq, <-zq];exact(d (h1++L) rfl).app M
 have m:∀M,zI (h1++(L++M)) y=some (p0.map qU):=λM=>(i M).rows;have v:∀M,eOf (h1++(L++M)) y=some 5:=λM=>(i M).ee ze;have A:∀M,zI (h1++(L++M)) z=some (f0.map kZ):=λM=>(D M).rows;have q:∀M,eOf (h1++(L++M)) z=some 2:=λM=>(D M).ee ze;have b:zI (h1++(L++a)) F=some []:=by have:=(u []).rows;simpa using this
 rw[zq];simp only[go_sem,m,v,A,q,p0,f0,List.map_cons,List.map_nil,List.length_cons,List.length_nil,bne_self_eq_false,beq_self_eq_true,qv,b,Bool.not_false,Bool.not_true];refine zl (c32 _ y p0 1 (i _) ze) ?_;rintro r j ⟨p,rfl,n3,nr⟩;rw[wGa] at nr
 have I:∀M,SlOf (h1++(L++(a++(p++M)))) r 2 ([(⟨1000,1800⟩:Spn)].map qF):=λM=>by
  have:=(nr (h1++(L++a)) rfl).app M;simpa only[zq] using this
 refine zz ?_
 refine zl (c35 _ r _ [⟨1000,1800⟩] [⟨1000,1800⟩] (I _) (kU (ty:=86) (st:=0) (xs:=[(⟨1000,1800⟩:Spn)].map qF) (by
  have:∀o:Ob,(h1++(L++(a++(p++[o]))))[h1.length+(L.length+(a.length+p.length))]? =some o:=λo=>zh;exact this _)) ze ze) ?_
 rintro _ j ⟨rfl,rfl⟩;simp only[go_sem,decide_true,qv];refine zl (c31 _ y p0 (i _) ze) ?_;rintro H j ⟨N,rfl,n4,n⟩;refine zz ?_;refine qx (c30 _ H (yY p0) (by simpa only[zq,List.cons_append,List.nil_append] using n _ rfl) (by rw[K0];decide)) ?_;rw[wHa];simp only[go_sem,beq_self_eq_true];rw[<-l,zq];exact qt
end Go.Proofs.YtjeehgkolepogaaGreat.Ax
namespace Go.Proofs.YtjeehgkolepogaaGreat.Ax
open Go Go.RowKit Go.ChangeShapes Go.WideShapes
section
variable {H:Type} {enc:TypeId × Value->H} {P:Program} {w:World} {base:Nat} {held:Bool}
def Kp(P:Program):Nat->TypeId->Bool
 | 0,_=>false
 | n+1,t=>match P.underlying t with
   | some (.int .i64)=>true
   | some (.struct a)=>(List.range (P.cellsOf t)).all λk=>a.toList.any λf=>Kp P n f.type && (decide (f.offset<=k) && decide (k<f.offset+P.cellsOf f.type))
   | _=>false
def QG{spare:Nat->Bool}:∀(n:Nat) {t:TypeId} {a:Nat} {g:List Value} {x:DataW H × List MemPlace},Kp P n t=true->DataW.trod enc P w base spare held a t g=some x->∀v∈g,∃z,v= .int .i64 z/\(Lit.int .i64 z).wf=true
 | 0,_,_,_,_,h,_=>by cases h
 | n+1,t,a,g,x,h,q=>by
   unfold Kp at h;split at h
   ·rename_i l;obtain⟨z,rfl,_,s⟩:=DataW.trod_int l q;intro v d;simp at d;exact⟨z,d,s⟩
   ·rename_i b l;obtain⟨xs,n',_,_,D,p,C⟩:=DataW.trod_struct l q;intro v d;obtain⟨k,y,rfl⟩:=List.mem_iff_getElem.1 d;have e:=zY.1 h k (jb.2 zb);obtain⟨f,m,c⟩:=List.any_eq_true.1 e;simp only[zi,decide_eq_true_eq] at c;obtain⟨o,A,B⟩:=c;obtain⟨j,r,rfl⟩:=List.mem_iff_getElem.1 m;have i:j<b.size:=(by simpa using r);have:=C j _ (by rw[qM i]);rw[zg zb] at this;refine QG n o this _ ?_;rw[List.mem_iff_getElem?];refine⟨k - b.toList[j].offset,?_⟩;have u:b[j]=b.toList[j]:=zh;rw[u,jZ,if_pos zb,List.getElem?_drop,show b.toList[j].offset+(k - b.toList[j].offset)=k by omega,zg y]
   ·cases h
abbrev gN:Gh:=⟨λ_=>0,λ_=>undef⟩
abbrev c0(w:World):Ctx:=ctx w gN []
def rd0{a:Addr}{u:Value}(h:w.cell? a=some u):(c0 w).rd a u:=⟨λ⟨i,o,hi,_⟩=>(by cases hi),h⟩
def Kq{c:Ctx}{A:Addr}:∀(a:List Int) (k:Nat),(∀j z,a[j]? =some z->c.rd (A.add (k+j)) (.int .i64 z))->ACells c (some A) k (a.map i64)
 | [],_,_=>trivial
 | z::a,k,h=>by
   refine⟨⟨A,_,rfl,by simpa using h 0 z rfl,rfl⟩,Kq a (k+1) λj b d=>?_⟩;have:=h (j+1) b (by simpa using d);rwa[show k+(j+1)=k+1+j by omega] at this
def Wr{c:Ctx}{A:Addr}{e:Nat}:∀(rows:List (List Int)) (i:Nat),(∀r∈rows,r.length=e)->(∀j r,rows[j]? =some r->∀k z,r[k]? =some z->c.rd (A.add ((i+j)*e+k)) (.int .i64 z))->ARows c (some A) e i (rows.map (·.map i64))
 | [],_,_,_=>trivial
 | r::rows,i,d,f=>by
   refine⟨⟨by simpa using d r (.head _),Kq r (i*e) λk z b=>by simpa using f 0 r rfl k z b⟩,Wr rows (i+1) (λq a=>d q (.tail _ a)) λj q a k z b=>?_⟩;have:=f (j+1) q (by simpa using a) k z b;rwa[show i+(j+1)=i+1+j by omega] at this
def K7(w:World)(e:Nat)(v:Value)(a:AV)(rows:List (List Int)):Prop:=
 AR (c0 w) a v/\SlOf [] a e (rows.map (·.map i64))/\∀r∈rows,r.length=e/\∀z∈r,(Lit.int .i64 z).wf=true
def slice_len{t e:TypeId}{n u:Nat}{v:Value}{x:DataW H × List MemPlace}(L:P.underlying t=some (.slice e))(C:Kp P n e=true)(h:DataW.trod enc P w base (λ_=>true) held u t [v]=some x):
    ∃a rows,K7 w (P.cellsOf e) v a rows/\rows.length<=maxLen:=by
 rcases Go.Deep.open_slice L h with⟨b,_⟩|⟨a,len,cap,m,n',D,R,b,Q,J,O,B,rfl,M⟩
 ·injection b with b _;subst b;exact⟨.v (.slice none 0 0),[],⟨rfl,⟨rfl,λh=>absurd rfl h⟩,λ_ h=>by cases h⟩,Nat.zero_le _⟩
 ·injection b with b _;subst b
  have each:∀i,i<len->∃r:List Int,r.length=P.cellsOf e/\(∀z∈r,(Lit.int .i64 z).wf=true)/\∀k z,r[k]? =some z->w.cell? (a.add (i*P.cellsOf e+k))=some (.int .i64 z):=by
   intro i hi;obtain⟨d,K,N⟩:=M i (by rw[B];simp;omega);obtain⟨_,g,o⟩:=World.cells?_some K;have y:=QG n C N
   have key:∀k,∃z:Int,k<d.length->d[k]? =some (.int .i64 z)/\(Lit.int .i64 z).wf=true:=λk=>by
    by_cases c:k<d.length
    ·obtain⟨z,G,F⟩:=y d[k] (zx c);exact⟨z,λ_=>⟨by rw[zg c,G],F⟩⟩
    ·exact⟨0,λh=>absurd h c⟩
   obtain⟨f,q⟩:=Classical.axiomOfChoice key;refine⟨(List.range (P.cellsOf e)).map f,zh,λz E=>?_,λk z c=>?_⟩
   ·obtain⟨k,c,rfl⟩:=zQ.1 E;exact(q k (by have:=jb.1 c;omega)).2
   ·have s:k<P.cellsOf e:=(by have:=(zj.1 c).1;simpa using this);have E:f k=z:=(by simpa [s] using c);rw[<-Addr.add_add,o k s,(q k zb).1,E]
  have:∃f:Nat->List Int,∀i,i<len->(f i).length=P.cellsOf e/\(∀z∈f i,(Lit.int .i64 z).wf=true)/\∀k z,(f i)[k]? =some z->w.cell? (a.add (i*P.cellsOf e+k))=some (.int .i64 z):=Go.Deep.choose_lt each;obtain⟨f,q⟩:=this;have g:((List.range len).map f).length=len:=zh
  have l:∀r∈(List.range len).map f,∃i,i<len/\f i=r:=λr p=>by
   obtain⟨i,hi,e⟩:=zQ.1 p;exact⟨i,jb.1 hi,e⟩
  refine⟨.sl (P.cellsOf e) (((List.range len).map f).map (·.map i64)),(List.range len).map f,⟨⟨some a,cap,zh,by simpa using J,?_⟩,⟨rfl,λ_=>rfl⟩,λr p=>?_⟩,by rw[g];omega⟩
  ·refine Wr _ 0 (λr p=>?_) λj r I k z c=>?_
   ·obtain⟨i,hi,rfl⟩:=l r p;exact(q i hi).1
   ·have A:j<len:=(by have:=(zj.1 I).1;simpa using this);have p:f j=r:=(by simpa [A] using I);rw[Nat.zero_add];exact rd0 ((q j A).2.2 k z (by rw[p];exact c))
  ·obtain⟨i,hi,rfl⟩:=l r p;exact⟨(q i hi).1,(q i hi).2.1⟩
def slice_in{t e:TypeId}{n b:Nat}{v:Value}{x:DataW H × List MemPlace}(d:P.underlying t=some (.slice e))(c:Kp P n e=true)(h:DataW.trod enc P w base (λ_=>true) held b t [v]=some x):
    ∃a rows,K7 w (P.cellsOf e) v a rows:=by
 obtain⟨a,rows,k,_⟩:=slice_len d c h;exact⟨a,rows,k⟩
end
def K8{z:Int}(h:(Lit.int .i64 z).wf=true):Fit z:=by
 simp[Lit.wf,IntKind.min,IntKind.max,IntKind.bits,IntKind.signed] at h;unfold Fit;omega
def kK(r:List Int)(k:Nat):Int:=r.getD k 0
def vba(r:List Int):Ev:=⟨kK r 0,kK r 1,kK r 2,kK r 3,kK r 4,kK r 5,kK r 6,kK r 7,kK r 8,kK r 9,kK r 10⟩
def vYa:∀ {r:List Int},r.length=11->r.map i64=evC (vba r)
 | [_,_,_,_,_,_,_,_,_,_,_],_=>rfl
def ZS(r:List Int):zL:=(kK r 0,kK r 1)
def K9:∀ {r:List Int},r.length=2->r.map i64=qy (ZS r)
 | [_,_],_=>rfl
def YF(r:List Int):Way:=(kK r 0,kK r 1,kK r 2)
def kJa:∀ {r:List Int},r.length=3->r.map i64=yR (YF r)
 | [_,_,_],_=>rfl
def YG(r:List Int):Elt:=((kK r 0,kK r 1),(kK r 2,kK r 3))
def kKa:∀ {r:List Int},r.length=4->r.map i64=wO (YG r)
 | [_,_,_,_],_=>rfl
def kLa:∀ {r:List Int},r.length=1->r.map i64=qQ (kK r 0)
 | [_],_=>rfl
def Qj{r:List Int}(h:∀z∈r,(Lit.int .i64 z).wf=true)(k:Nat):Fit (kK r k):=by
 unfold kK;rw[zn];by_cases a:k<r.length
 ·rw[zg a];exact K8 (h _ (zx a))
 ·rw[zR zb];simp[Fit]
def wK{α:Type}{f:List Int->α}{g:α->List AV}{e:Nat}(a:∀ {r:List Int},r.length=e->r.map i64=g (f r)){rows:List (List Int)}(h:∀r∈rows,r.length=e):rows.map (·.map i64)=(rows.map f).map g:=by
 rw[List.map_map];exact List.map_congr_left λr b=>a (h r b)
structure SFit0 (s:Setup):Prop where
 places:Fit s.places
 pace:qp s.pace
 elements:∀e∈s.elements,qp e.1/\qp e.2
 classes:∀p∈s.classes,qp p
 gears:∀p∈s.gears,qp p
 tiers:∀t∈s.tiers,qp t
 nw:s.ways.length<9223372036854775808
 ne:s.elements.length<9223372036854775808
 nc:s.classes.length<9223372036854775808
 ng:s.gears.length<9223372036854775808
 nr:s.rates.length<9223372036854775808
 nt:s.tiers.length<9223372036854775808
def SFit0.few{s:Setup}(f:SFit0 s)(h:V4 s=true):SFit s:=by
 simp only[V4,decide_eq_true_eq] at h;obtain⟨a,d,c,e,g,b⟩:=h;exact⟨f.places,f.pace,f.elements,f.classes,f.gears,f.tiers,zb,zb,zb,zb,zb,zb⟩
def InEvs(w:World)(v:Value):Prop:=∃(x:AV) (l:List Ev),AR (c0 w) x v/\SlOf [] x 11 (l.map evC)
def InSet(w:World)(v:Value):Prop:=∃(s:Setup) (a:SA),AR (c0 w) (qE s a) v/\SIn [] s a/\SFit0 s
section
variable {H:Type} {enc:TypeId × Value->H} {w:World} {base:Nat} {held:Bool}
def evs_in{b:Nat}{v:Value}{x:DataW H × List MemPlace}(h:DataW.trod enc Tryz.prog w base (λ_=>true) held b 31 [v]=some x):InEvs w v:=by
 obtain⟨a,rows,j,c,d⟩:=slice_in Tryz.underlying31 (n:=2) zC h;have e:Tryz.prog.cellsOf 55=11:=zC;rw[e] at c d;rw[wK (f:=vba) (g:=evC) vYa λr i=>(d r i).1] at c;exact⟨a,_,j,c⟩
def Kr{t e:TypeId}{n b:Nat}{v:Value}{y:Option (DataW H × List MemPlace)}(d:Tryz.prog.underlying t=some (.slice e))(c:Kp Tryz.prog n e=true)(h:DataW.trod enc Tryz.prog w base (λ_=>true) held b t [v]=y)(f:y.isSome=true):∃a rows,K7 w (Tryz.prog.cellsOf e) v a rows/\rows.length<=9223372036854775807:=by
 cases y with
 | none=>cases f
 | some y=>exact slice_len d c h
def kF{a:Nat}{v:Value}{y:Option (DataW H × List MemPlace)}(h:DataW.trod enc Tryz.prog w base (λ_=>true) held a 3 [v]=y)(d:y.isSome=true):∃z,v= .int .i64 z/\Fit z:=by
 cases y with
 | none=>cases d
 | some y=>
   obtain⟨z,b,_,c⟩:=DataW.trod_int Tryz.underlying3 h;injection b with b _;exact⟨z,b,K8 c⟩
def xxa{a:Nat}{v0 v1:Value}{y:Option (DataW H × List MemPlace)}(h:DataW.trod enc Tryz.prog w base (λ_=>true) held a 24 [v0,v1]=y)(c:y.isSome=true):∃z0 b,v0= .int .i64 z0/\v1= .int .i64 b/\Fit z0/\Fit b:=by
 cases y with
 | none=>cases c
 | some y=>
   have:=QG (n:=2) zC h;obtain⟨z0,h0,e⟩:=this v0 zh;obtain⟨b,d,f⟩:=this v1 zh;exact⟨z0,b,h0,d,K8 e,K8 f⟩
set_option maxHeartbeats 1000000 in
set_option maxRecDepth 100000 in
def setup_in{r:Reach}{b0:Nat}{v:Value}{d:DataW H}{p:List MemPlace}(hv:Value.okWide Tryz.prog w r b0 30 v)(h:DataW.Trod enc Tryz.prog w base (λ_=>true) held 30 v d p):InSet w v:=by
 simp only[Value.okWide,Tryz.underlying30] at hv;obtain⟨cs,rfl,_,_⟩:=hv;obtain⟨D,l⟩:=h;have l:DataW.trod enc Tryz.prog w base (λ_=>true) held D 30 cs.toList=some (d,p):=by simpa [Value.cells] using l
 obtain⟨xs,n,_,_,hl,x,a⟩:=DataW.trod_struct Tryz.underlying30 l;have κ:Tryz.prog.cellsOf 30=23:=zC;have k3:Tryz.prog.cellsOf 3=1:=zC;have α:Tryz.prog.cellsOf 22=1:=zC;have i:Tryz.prog.cellsOf 24=2:=zC;have ε:Tryz.prog.cellsOf 25=1:=zC;have ζ:Tryz.prog.cellsOf 26=1:=zC;have δ:Tryz.prog.cellsOf 27=1:=zC;have J:Tryz.prog.cellsOf 28=1:=zC;have B:Tryz.prog.cellsOf 125=3:=zC;have Q:Tryz.prog.cellsOf 82=4:=zC;have N:Tryz.prog.cellsOf 79=2:=zC;rw[κ] at hl
 have b:∀j,j<22->(xs[j]?).isSome=true:=λj hj=>by
  have:j<xs.length:=by rw[x];exact hj
  simp[this]
 generalize X:cs.toList=L at hl a
 match L,hl with
 | [v0,v1,v2,v3,v4,v5,v6,v7,v8,v9,v10,v11,v12,v13,v14,v15,v16,v17,v18,v19,v20,ω,v22],_=>
   have f0:=a 0 ⟨"Places",3,0,false, "", "",0⟩ rfl;have f1:=a 1 ⟨"Ways",22,1,false, "", "",8⟩ rfl;have f2:=a 2 ⟨"Pace",24,2,false, "", "",32⟩ rfl;have f3:=a 3 ⟨"Elements",25,4,false, "", "",48⟩ rfl;have f4:=a 4 ⟨"Classes",26,5,false, "", "",72⟩ rfl;have f5:=a 5 ⟨"Gears",26,6,false, "", "",96⟩ rfl;have f6:=a 6 ⟨"Allow",3,7,false, "", "",120⟩ rfl;have f7:=a 7 ⟨"Unit",3,8,false, "", "",128⟩ rfl;have f8:=a 8 ⟨"Cap",3,9,false, "", "",136⟩ rfl;have f9:=a 9 ⟨"PaidBreak",3,10,false, "", "",144⟩ rfl;have s:=a 10 ⟨"AutoAfter",3,11,false, "", "",152⟩ rfl;have u:=a 11 ⟨"AutoBreak",3,12,false, "", "",160⟩ rfl;have q:=a 12 ⟨"DayReg",3,13,false, "", "",168⟩ rfl;have y:=a 13 ⟨"DayOver",3,14,false, "", "",176⟩ rfl;have f14:=a 14 ⟨"WeekReg",3,15,false, "", "",184⟩ rfl;have f15:=a 15 ⟨"NightFrom",3,16,false, "", "",192⟩ rfl;have o:=a 16 ⟨"NightTo",3,17,false, "", "",200⟩ rfl;have A:=a 17 ⟨"Rates",27,18,false, "", "",208⟩ rfl;have t:=a 18 ⟨"Diff",3,19,false, "", "",232⟩ rfl;have z:=a 19 ⟨"Least",3,20,false, "", "",240⟩ rfl;have f20:=a 20 ⟨"Fault",3,21,false, "", "",248⟩ rfl;have f21:=a 21 ⟨"Tiers",28,22,false, "", "",256⟩ rfl;simp only[List.drop_succ_cons,List.drop_zero,List.take_succ_cons,List.take_zero,List.take_nil,k3,α,i,ε,ζ,δ,J] at f0 f1 f2 f3 f4 f5 f6 f7 f8 f9 s u q y f14 f15 o A t z f20 f21;obtain⟨z0,rfl,g0⟩:=kF f0 (b 0 zb);obtain⟨a1,r1,⟨m1,n1,o1⟩,q1⟩:=Kr Tryz.underlying22 (n:=3) zC f1 (b 1 zb);rw[B] at n1 o1;obtain⟨z2,z3,rfl,rfl,g2,g3⟩:=xxa f2 (b 2 zb);obtain⟨a4,r4,⟨m4,n4,K⟩,q4⟩:=Kr Tryz.underlying25 (n:=3) zC f3 (b 3 zb);rw[Q] at n4 K;obtain⟨a5,r5,⟨m5,n5,G⟩,q5⟩:=Kr Tryz.underlying26 (n:=3) zC f4 (b 4 zb);rw[i] at n5 G;obtain⟨a6,r6,⟨m6,Y,o6⟩,q6⟩:=Kr Tryz.underlying26 (n:=3) zC f5 (b 5 zb);rw[i] at Y o6;obtain⟨z7,rfl,g7⟩:=kF f6 (b 6 zb);obtain⟨z8,rfl,g8⟩:=kF f7 (b 7 zb);obtain⟨z9,rfl,g9⟩:=kF f8 (b 8 zb);obtain⟨V,rfl,g10⟩:=kF f9 (b 9 zb);obtain⟨P,rfl,g11⟩:=kF s (b 10 zb);obtain⟨η,rfl,g12⟩:=kF u (b 11 zb);obtain⟨I,rfl,g13⟩:=kF q (b 12 zb);obtain⟨W,rfl,g14⟩:=kF y (b 13 zb);obtain⟨S,rfl,g15⟩:=kF f14 (b 14 zb);obtain⟨T,rfl,g16⟩:=kF f15 (b 15 zb);obtain⟨U,rfl,g17⟩:=kF o (b 16 zb);obtain⟨Z,O,⟨M,n18,C⟩,q18⟩:=Kr Tryz.underlying27 (n:=3) zC A (b 17 zb);rw[k3] at n18 C;obtain⟨R,rfl,χ⟩:=kF t (b 18 zb);obtain⟨F,rfl,g20⟩:=kF z (b 19 zb);obtain⟨ι,rfl,g21⟩:=kF f20 (b 20 zb);obtain⟨a22,θ,⟨E,n22,m⟩,q22⟩:=Kr Tryz.underlying28 (n:=3) zC f21 (b 21 zb);rw[N] at n22 m;rw[wK (f:=YF) (g:=yR) kJa λr c=>(o1 r c).1] at n1;rw[wK (f:=YG) (g:=wO) kKa λr c=>(K r c).1] at n4;rw[wK (f:=ZS) (g:=qy) K9 λr c=>(G r c).1] at n5;rw[wK (f:=ZS) (g:=qy) K9 λr c=>(o6 r c).1] at Y;rw[wK (f:=(λr=>kK r 0)) (g:=qQ) kLa λr c=>(C r c).1] at n18;rw[wK (f:=ZS) (g:=qy) K9 λr c=>(m r c).1] at n22;refine⟨⟨z0,r1.map YF,(z2,z3),r4.map YG,r5.map ZS,r6.map ZS,z7,z8,z9,V,P,η,I,W,S,T,U,O.map (λr=>kK r 0),R,F,ι,θ.map ZS⟩,⟨a1,a4,a5,a6,Z,a22⟩,⟨cs,rfl,?_⟩,⟨n1,n4,n5,Y,n18,n22⟩,⟨g0,⟨g2,g3⟩,?_,?_,?_,?_,by rw[zc];omega,by rw[zc];omega,by rw[zc];omega,by rw[zc];omega,by rw[zc];omega,by rw[zc];omega⟩⟩
   ·rw[X];exact⟨_,_,rfl,rfl,⟨_,_,rfl,m1,⟨_,_,rfl,rfl,⟨_,_,rfl,rfl,⟨_,_,rfl,m4,⟨_,_,rfl,m5,⟨_,_,rfl,m6,⟨_,_,rfl,rfl,⟨_,_,rfl,rfl,⟨_,_,rfl,rfl,⟨_,_,rfl,rfl,⟨_,_,rfl,rfl,⟨_,_,rfl,rfl,⟨_,_,rfl,rfl,⟨_,_,rfl,rfl,⟨_,_,rfl,rfl,⟨_,_,rfl,rfl,⟨_,_,rfl,rfl,⟨_,_,rfl,M,⟨_,_,rfl,rfl,⟨_,_,rfl,rfl,⟨_,_,rfl,rfl,⟨_,_,rfl,E,rfl⟩⟩⟩⟩⟩⟩⟩⟩⟩⟩⟩⟩⟩⟩⟩⟩⟩⟩⟩⟩⟩⟩⟩
   ·intro e k;obtain⟨r,c,rfl⟩:=zQ.1 k;have:=Qj (K r c).2;exact⟨⟨this 0,this 1⟩,this 2,this 3⟩
   ·intro e k;obtain⟨r,c,rfl⟩:=zQ.1 k;have:=Qj (G r c).2;exact⟨this 0,this 1⟩
   ·intro e k;obtain⟨r,c,rfl⟩:=zQ.1 k;have:=Qj (o6 r c).2;exact⟨this 0,this 1⟩
   ·intro e k;obtain⟨r,c,rfl⟩:=zQ.1 k;have:=Qj (m r c).2;exact⟨this 0,this 1⟩
end
def run_law{f:FuncId}{args:List AV}{vs:List Value}{w:World}(c:ACalls Tryz.prog f args [] λr h'=>r=bl true/\h'=[])(h:ARs (c0 w) args vs):Calls Tryz.prog f vs.toArray w λe w'=>e= .returned (.bool true)/\Below w.heap.size w w':=by
 have g:fill (λ_=> .res) ([]:List Ob)=[]:=XI;have d:HOk w.heap.size w gN []:=⟨λi o hi=>(by cases hi),λi j o p b _ hi=>(by cases hi)⟩;refine(c.2.2 (λ_=> .res) (λ_ _=>rfl) w.heap.size w gN vs (by rw[g];exact d) (zB _) (by rw[g];exact h)).mono ?_;rintro e w' ⟨v,r,h',g',rfl,⟨rfl,rfl⟩,_,k,a⟩;have a:v= .bool true:=a;subst a;exact⟨rfl,k.below⟩
