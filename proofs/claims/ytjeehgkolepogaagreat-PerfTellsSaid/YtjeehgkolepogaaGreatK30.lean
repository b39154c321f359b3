import Derived.Test.YtjeehgkolepogaaGreatK29
set_option linter.all false
namespace Go.Proofs.YtjeehgkolepogaaGreat.Ax
open Go Go.Proofs
set_option maxRecDepth 100000
section
variable{l:List Ev}{g:Seg}{s:Setup}{w:Int}
abbrev wQa(v:PerfV):AV:= .tup [rat v.earned,i64 v.eligible,rat v.perf,i64 v.err]
abbrev jx(z:zL × Int):List AV:=[i64 z.1.1,i64 z.1.2,i64 z.2]
def kEa(z v:zL × Int):(if z.2=0 then [i64 v.1.1,i64 v.1.2,i64 v.2] else [i64 z.1.1,i64 z.1.2,i64 z.2])=jx (jg z v):=by
 unfold jg;split<;>rfl
def c44s(h:List Ob)(j:Nat)(z v:zL × Int)(a:h[j]? =some (.box 60 (jx z))):
    ACalls Tryz.prog 31 [.ptr j 0,rat v.1,i64 v.2] h λr h'=>r= .tup []/\h'=h.set j (.box 60 (jx (jg z v))):=
 (c44 h j z.1.1 z.1.2 z.2 v.1 v.2 a).mono λr h' ⟨c,b⟩=>⟨c,by rw[b,kEa]⟩
def kFa{A R:List Ev}{x:Ev}(d:l=A++x::R)(b:∀e∈A,vP g.id e=false)(c:vP g.id x=true):vq l g=x:=by
 unfold vq;rw[d,List.find?_append,List.find?_eq_none.2 (λe a=>by rw[b e a];simp)];simp[c]
def Wj(d:zX s=true)(f:g∈(qq s l w).1)(h:g.kind=1):∃e∈l,vP g.id e=true:=by
 obtain⟨e,⟨c,i,j⟩,b⟩:=(stream_rise (l:=l) (w:=w) d).2 g f;refine⟨e,c,?_⟩
 have a:e.kind=3:=by
  have:=b.2.1;rw[h] at this;unfold wt at this;split at this
  ·assumption
  ·split at this
   ·cases this
   ·split at this<;>cases this
 simp[vP,a,b.1]
def xua:(yZ s w l).length<=l.length:=by
 have:=qj (λe=> !ww s w e) (zS l);rw[jl] at this;exact this
def y8:(qq s l w).1.length<=3*l.length+1:=by
 have c:=jl l;have b:szT (goP s w (zS l))<=szT ⟨none,[],[]⟩+3*(zS l).length:=jOa (zS l);have a:szT ⟨none,[],[]⟩=0:=rfl;have d:=JZ (s:=s) (t:=goP s w (zS l)) (at_:=32054400);unfold qq;split
 ·simp only[szT] at d b a⊢;omega
 ·simp
def Ko(s:Setup)(e:Ev):qp (jQ s e).1:=by
 have d:∀c,qp (wx s e c).1:=λc=>by
  unfold wx;simp only;exact Xk (f:=jG) (λa b=>vV XE a b) _ _ _
 unfold jQ;split
 ·split
  ·exact kw
  ·split
   ·exact d _
   ·exact kw
 ·exact kw
def wRa(c d:zL × Int)(G:List zL)(e:Int):PerfV:=
 let b:=if c.2=0 then jg c (vr (jB G).1 d.1) else c;let a:=if b.2=0/\b.1.1<0 then((0,1),b.2) else b;let done:=if e>0/\a.2=0 then jg (jg ((0,1),a.2) (make e 1)) (wy a.1 (make e 1).1) else((0,1),a.2)
 if done.2=0 then⟨a.1,e,done.1,0⟩ else⟨(0,0),e,(0,0),done.2⟩
def QF(a:zL × Int)(b:Int):PerfV:=
 if(if b>0/\a.2=0 then jg (jg ((0,1),a.2) (make b 1)) (wy a.1 (make b 1).1) else((0,1),a.2)).2=0
 then⟨a.1,b,(if b>0/\a.2=0 then jg (jg ((0,1),a.2) (make b 1)) (wy a.1 (make b 1).1) else((0,1),a.2)).1,0⟩
 else⟨(0,0),b,(0,0),(if b>0/\a.2=0 then jg (jg ((0,1),a.2) (make b 1)) (wy a.1 (make b 1).1) else((0,1),a.2)).2⟩
def kGa(a b:zL × Int)(G:List zL)(c:Int):wRa a b G c=QF (if(if a.2=0 then jg a (vr (jB G).1 b.1) else a).2=0/\(if a.2=0 then jg a (vr (jB G).1 b.1) else a).1.1<0 then((0,1),(if a.2=0 then jg a (vr (jB G).1 b.1) else a).2) else(if a.2=0 then jg a (vr (jB G).1 b.1) else a)) c:=rfl
def xva:∀(l:List Seg) (z:Int),Fit z->Fit (l.foldl (λn g=>wr (n+wr (g.to_ - g.from_))) z)
 | [],_,h=>h
 | _::l,_,_=>xva l _ (kz _)
def kJ{h R:List Ob}{b c a p1 p2:Ob}{i:Nat}(hi:h.length+3<=i):(h++b::c::a::R)[i]? =(h++b::p1::p2::R)[i]? :=by
 rw[zM zb,zM zb];obtain⟨r,d⟩:∃r,i - h.length=r+3:=⟨i - h.length - 3,zb⟩;rw[d];rfl
set_option maxHeartbeats 8000000 in
def c15(h:List Ob)(s:Setup)(a:SA)(k:SIn h s a)(f:SFit s)(x:AV)(l:List Ev)(w wk:Int)(hx:SlOf h x 11 (l.map evC))(hl:l.length<262144):
    ACalls Tryz.prog 7 [qE s a,x,i64 w,i64 wk] h λr h'=>r=wQa (y0 s l w wk)/\h'=h:=by
 refine enterQX Tryz.f7 λB=>?_;simp only[go_sem,k.w.one,k.e.one,k.c.one,k.g.one,k.r.one,k.t.one];refine zl (c16 _ s a (k.app _) f) ?_;rintro _ h1 ⟨rfl,e2⟩;subst e2;cases q1:zX s
 ·have hp:y0 s l w wk=⟨(0,1),0,(0,1),0⟩:=by simp[y0,q1]
  rw[hp];simp only[go_sem,q1,Bool.not_false];refine zl (c40 _) ?_;rintro _ h1 ⟨rfl,e2⟩;subst e2;refine zz ?_;refine zl (c40 _) ?_;rintro _ h1 ⟨rfl,e2⟩;subst e2;refine zz ?_;exact qt
 have hp:y0 s l w wk=jXa s (yZ s w l) (qq s (yZ s w l) w).1 wk:=by simp[y0,q1]
 obtain⟨ev,hev⟩:∃ev,ev=yZ s w l:=⟨_,rfl⟩;obtain⟨K,hsg⟩:∃K,K=(qq s ev w).1:=⟨_,rfl⟩;rw[<-hev, <-hsg] at hp;have hevl:ev.length<262144:=by rw[hev];exact Nat.lt_of_le_of_lt xua hl
 have hsgl:K.length<1048576:=by have:=y8 (s:=s) (l:=ev) (w:=w);rw[hsg];omega
 have kk:∀M,SIn (h++M) s a:=λM=>k.app M;simp only[go_sem,q1,Bool.not_true,(kk _).w.one,(kk _).e.one,(kk _).c.one,(kk _).g.one,(kk _).r.one,(kk _).t.one];refine zl (c41 _ s a (kk _) x l w (hx.app _) zb) ?_;rintro xe h1 ⟨L1,rfl,n1,ne⟩;rw[<-hev] at ne;simp only[go_sem,(kk _).w.one,(kk _).e.one,(kk _).c.one,(kk _).g.one,(kk _).r.one,(kk _).t.one];have he1:=ne _ rfl;simp only[zq,List.cons_append,List.nil_append] at he1;refine zl (c21 _ s a (kk _) f xe ev w he1 zb) ?_;rintro _ h1 ⟨L2,y1,z1,rfl,n2,rfl,ny,nz⟩;rw[<-hsg] at ny;refine zz ?_;refine qx (c40 _) ?_;obtain⟨y,P⟩:∃y,y=h++ .box 30 (zN s a):: .box 24 [i64 0,i64 0]:: .box 24 [i64 0,i64 0]::(L1++L2):=⟨_,rfl⟩;have hp5:Pre h y:=⟨_,P,zA rfl (zA rfl (zA rfl (n1.app n2)))⟩;have b0:y[h.length]? =some (.box 30 (zN s a)):=by rw[P];exact qr rfl
 have b1:y[h.length+1]? =some (.box 24 [i64 0,i64 0]):=by rw[P];exact qa (k:=1) rfl
 have b2:y[h.length+2]? =some (.box 24 [i64 0,i64 0]):=by rw[P];exact qa (k:=2) rfl
 have k5:SIn y s a:=by rw[P];exact k.app _
 have he5:SlOf y xe 11 (ev.map evC):=by
  have:=he1.app L2;rw[P];simpa only[zq,List.cons_append,List.nil_append] using this
 have hy5:SlOf y y1 5 (K.map qU):=by
  have:=ny _ rfl;rw[P];simpa only[zq,List.cons_append,List.nil_append] using this
 have Q:h.length+3<=y.length:=by rw[P];simp
 have hcat:h++ .box 30 (zN s a):: .box 24 [AV.v (Value.int IntKind.i64 0),AV.v (Value.int IntKind.i64 0)]:: .box 24 [AV.v (Value.int IntKind.i64 0),AV.v (Value.int IntKind.i64 0)]::(L1++(L2++[Ob.box 60 [i64 0,i64 1,AV.v (Value.int IntKind.i64 0)]]))=y++[Ob.box 60 (jx ((0,1),0))]:=by rw[P];simp
 have hl5:h.length+(L1.length+L2.length+1+1+1)=y.length:=by rw[P];simp
 have hy51:=(hy5.app [Ob.box 60 (jx ((0,1),0))]).rows;rw[<-hcat] at hy51;simp only[go_sem,hy51,zc];rw[hcat];obtain⟨gl,ω⟩:∃gl:List Seg->List zL,gl=λq=>(q.filter (qn wk)).map λg=>(jQ s (vq ev g)).1:=⟨_,rfl⟩;obtain⟨al,hal⟩:∃al:List Seg->zL × Int,al=λq=>(q.filter (qn wk)).foldl (λz g=>jg z ((0,1),(jQ s (vq ev g)).2)) ((0,1),0):=⟨_,rfl⟩;obtain⟨el,hel⟩:∃el:List Seg->Int,el=λq=>(q.filter (qn wk)).foldl (λn g=>wr (n+wr (g.to_ - g.from_))) 0:=⟨_,rfl⟩
 have gll:∀q,(gl q).length<=q.length:=λq=>by
  rw[ω];simp only[zc];exact qj _ _
 refine wp_loop_a ze (λm T h'=>∃j:Nat,j<=K.length/\Pre y h'/\h'[y.length]? =some (.box 60 (jx (al (K.take j))))/\OwnS y h' 24 2 (T 16) ((gl (K.take j)).map qy)/\T 3=i64 wk/\T 4= .ptr h.length 0/\T 8= .ptr (h.length+1) 0/\T 9=i64 (el (K.take j))/\T 10= .ptr (h.length+2) 0/\T 12=xe/\T 15= .ptr y.length 0/\T 46=y1/\T 47=i64 K.length/\T 48=i64 j/\m=K.length - j) K.length
  ⟨0,zb,Pre.refl.app (zW rfl),by rw[qr rfl,hal];rfl,.inl ⟨zo,by rw[ω];rfl⟩,zo,zo,zo,by(simp only[go_sem]<;>rw[hel]<;>rfl),zo,zo,by(simp only[go_sem]<;>rw[P]<;>simp),zo,zo,by(simp only[go_sem]<;>rfl),rfl⟩ ?_
 rintro m T h' ⟨j,hj,W,Y,ho,t3,t4,D,t9,u,β,b,t46,t47,μ,rfl⟩;simp only[go_sem,t47,μ];refine ways (λe=>?_) (λe=>?_)
 ·have hlt:=dlt e;have hy':=W.sl hy5;have he':=W.sl he5;have k':=W.sin k5;have hee:=hy'.at (i:=j) (by simpa using hlt);have φ:(K.map qU)[j]? =some (qU K[j]):=by rw[zw,zg hlt];rfl
  have hkl:(j:Int)<K.length:=zb;have htk:=zG hlt;have hmem:K[j]∈K:=zx hlt;obtain⟨g,hg⟩:∃g,g=K[j]:=⟨_,rfl⟩;rw[<-hg] at φ htk hmem;have hA:List.length (qU g)=5:=rfl
  have skip:qn wk g=false->al (K.take (j+1))=al (K.take j)/\gl (K.take (j+1))=gl (K.take j)/\el (K.take (j+1))=el (K.take j):=λq=>by
   rw[<-htk,hal,ω,hel];simp[jc,q]
  cases q2:g.kind != 1
  ·cases q3:kT g.from_ != wk
   ·have hk1:g.kind=1:=(by simpa using q2);have hw1:kT g.from_=wk:=(by simpa using q3);have hyes:qn wk g=true:=by simp[qn,hk1,hw1]
    have step:al (K.take (j+1))=jg (al (K.take j)) ((0,1),(jQ s (vq ev g)).2)/\gl (K.take (j+1))=gl (K.take j)++[(jQ s (vq ev g)).1]/\el (K.take (j+1))=wr (el (K.take j)+wr (g.to_ - g.from_)):=by
     rw[<-htk,hal,ω,hel];simp[jc,hyes,qK]
    have hex:∃e∈ev,vP g.id e=true:=Wj (w:=w) q1 (by rw[<-hsg];exact hmem) hk1;rcases V6 (vP g.id) ev with⟨_,hno⟩|⟨A,tk,R,hAR,hix,htk1,htk2⟩
    ·obtain⟨e,he,hi⟩:=hex;rw[hno e he] at hi;cases hi
    have htask:=kFa hAR htk2 htk1;have hAl:A.length<ev.length:=(by rw[hAR];simp);have ρ:(ev.map evC)[A.length]? =some (evC tk):=jz (by rw[hAR];simp);have heeT:eOf h' xe=some 11:=he'.at (i:=A.length) (by simpa using hAl);have hklT:(A.length:Int)<(ev.length:Int):=zb;have hb53:∀M,(h'++(.box 62 (qU g)::M))[h'.length]? =some (.box 62 (qU g)):=λM=>(by rw[qr rfl];rfl);simp only[go_sem,t3,t46,μ,hee,hy'.rows,φ,hkl,zc,Int.toNat_natCast,zd,q2,q3,qv];refine zl (c17 g.from_ _) ?_;rintro _ h4 ⟨rfl,e4⟩;subst e4;simp only[go_sem,t3,t9,β,μ,q3]
    refine zl (c42 _ xe 29 [.ptr h'.length 0] (ev.map evC) (λr=>vP g.id (V5 r)) (by rw[zc];omega) (λr hr=>by obtain⟨p,_,rfl⟩:=zQ.1 hr;rfl) (he'.app _) (λr hr M=>by
     obtain⟨p,_,rfl⟩:=zQ.1 hr;exact c43 _ h'.length p g (by rw[zq];exact hb53 _))) ?_
    rintro _ h4 ⟨rfl,e4⟩;subst e4;rw[hix]
    have hb30:∀M,(h'++M)[h.length]? =some (.box 30 (zN s a)):=λM=>by
     obtain⟨L,rfl,_⟩:=W;rw[zq];exact zk b0
    have kM:∀M,SIn (h'++M) s a:=λM=>k'.app M;have eT:∀M,eOf (h'++M) xe=some 11:=λM=>(he'.app M).at (i:=A.length) (by simpa using hAl);have rT:∀M,zI (h'++M) xe=some (ev.map evC):=λM=>(he'.app M).rows;have oM:∀M,OwnS y (h'++M) 24 2 (T 16) ((gl (K.take j)).map qy):=λM=>ho.app M;have bxM:∀M,(h'++M)[y.length]? =some (.box 60 (jx (al (K.take j)))):=λM=>zk Y;obtain⟨gp,hgp⟩:∃gp,gp=jQ s tk:=⟨_,rfl⟩;rw[htask, <-hgp] at step;obtain⟨s1,s2,s3⟩:=step
    have hcap:((gl (K.take j)).length+1)*17<=140737488355328:=by
     have:=gll (K.take j);rw[zT] at this;omega
    refine zz ?_;refine zZ [.res] 1 (oF [1,2,0,3,4,5,6,7,8,9,10,11] ([])) ?_;simp only[go_sem,t4,β,hb30,eT,rT,ρ,hklT,zc,Int.toNat_natCast,zd,(kM _).w.one,(kM _).e.one,(kM _).c.one,(kM _).g.one,(kM _).r.one,(kM _).t.one];refine zl (c22 _ s a (kM _) f tk) ?_;rintro _ h4 ⟨rfl,e4⟩;subst e4;rw[<-hgp];rcases ho with⟨t16,hnil⟩|⟨id,st,u1,t16,u3⟩
    ·simp only[go_sem,t16,t4,β,hb30,eT,rT,ρ,hklT,zc,Int.toNat_natCast,zd];refine zl (c40 _) ?_;rintro _ h4 ⟨rfl,e4⟩;subst e4;simp only[go_sem,b];refine zl (c44s _ y.length (al (K.take j)) ((0,1),gp.2) (bxM _)) ?_;rintro _ h4 ⟨rfl,rfl⟩;simp only[go_sem,μ];have hlt5:y.length<h'.length:=(zj.1 Y).1;refine⟨K.length - (j+1),zb,j+1,zb,(W.app (zA rfl (zA rfl (zA rfl (zW rfl))))).set (zB _) rfl,by rw[zt (bxM _),s1],.inr ⟨h'.length+3,0,zb,rfl,?_⟩,t3,t4,D,by rw[s3],u,β,b,t46,t47,qh zb rfl,rfl⟩;rw[zf zb,qa (k:=3) rfl,s2,zD,hnil];rfl
    ·have hgM:∀M,(h'++M)[id]? =some (.row 24 2 ((gl (K.take j)).map qy) st):=λM=>zk u3;simp only[go_sem,t16,t4,β,hgM,hcap,hb30,eT,rT,ρ,hklT,zc,Int.toNat_natCast,zd];refine zl (c40 _) ?_;rintro _ h4 ⟨rfl,e4⟩;subst e4;have hne:id≠y.length:=λq=>(by rw[q,Y] at u3;cases u3);have bxS:∀M o,((h'++M).set id o)[y.length]? =some (.box 60 (jx (al (K.take j)))):=λM o=>(by rw[zf hne];exact bxM _);simp only[go_sem,b];refine zl (c44s _ y.length (al (K.take j)) ((0,1),gp.2) (bxS _ _)) ?_;rintro _ h4 ⟨rfl,rfl⟩;simp only[go_sem,μ];refine⟨K.length - (j+1),zb,j+1,zb,((W.app (zA rfl (zA rfl (zW rfl)))).set u1 rfl).set (zB _) rfl,by rw[zt (bxS _ _),s1],.inr ⟨id,st+1,u1,rfl,?_⟩,t3,t4,D,by rw[s3],u,β,b,t46,t47,qh zb rfl,rfl⟩;rw[zf (Ne.symm hne),zt (hgM _),s2,zD];rfl
   ·simp only[go_sem,t3,t46,μ,hee,hy'.rows,φ,hkl,zc,Int.toNat_natCast,zd,q2,q3,qv];refine zl (c17 g.from_ _) ?_;rintro _ h4 ⟨rfl,e4⟩;subst e4;simp only[go_sem,t3,μ,q3]
    have sk:qn wk g=false:=by
     unfold qn;have:(kT g.from_==wk)=false:=(by simpa using q3);rw[this,Bool.and_false]
    exact⟨K.length - (j+1),zb,j+1,zb,W.app (zW rfl),by rw[(skip sk).1];exact zk Y,by rw[(skip sk).2.1];exact ho.app _,t4,D,by rw[(skip sk).2.2];exact t9,u,β,b,t46,t47,qh zb rfl,rfl⟩
  ·simp only[go_sem,t46,μ,hee,hy'.rows,φ,hkl,zc,Int.toNat_natCast,zd,q2,qv]
   have sk:qn wk g=false:=by
    unfold qn;have:(g.kind==1)=false:=(by simpa using q2);rw[this,Bool.false_and]
   exact⟨K.length - (j+1),zb,j+1,zb,W.app (zW rfl),by rw[(skip sk).1];exact zk Y,by rw[(skip sk).2.1];exact ho.app _,t3,t4,D,by rw[(skip sk).2.2];exact t9,u,β,b,t47,qh zb rfl,rfl⟩
 ·have hge:=jO e;have hj2:j=K.length:=zb;subst hj2;rw[qR] at Y ho t9;obtain⟨z0,hz0⟩:∃z0,z0=al K:=⟨_,rfl⟩;obtain⟨G,hG⟩:∃G,G=gl K:=⟨_,rfl⟩;obtain⟨O,hn0⟩:∃O,O=el K:=⟨_,rfl⟩;rw[<-hz0] at Y;rw[<-hG] at ho;rw[<-hn0] at t9
  have hGf:∀p∈G,qp p:=λp hp=>by
   rw[hG,ω] at hp;obtain⟨q,_,rfl⟩:=zQ.1 hp;exact Ko _ _
  have hGl:G.length<1099511627776:=by have:=gll K;rw[hG];omega
  have hGo:=ho.rows;obtain⟨xg,hxg⟩:∃xg,xg=T 16:=⟨_,rfl⟩;rw[<-hxg] at hGo ho;have t16:T 16=xg:=hxg.symm;have hlt5:y.length<h'.length:=(zj.1 Y).1;simp only[go_sem,t16];refine zl (c23 _ xg G hGf hGl hGo) ?_;rintro _ h4 ⟨rfl,e4⟩;subst e4;simp only[go_sem,b];refine zl (c44s _ y.length z0 (jB G) Y) ?_;rintro _ h6 ⟨rfl,e6⟩;obtain⟨z1,hz1⟩:∃z1,z1=jg z0 (jB G):=⟨_,rfl⟩;rw[<-hz1] at e6;have p6:Pre y h6:=by rw[e6];exact W.set (zB _) rfl
  have l6:h6.length=h4.length:=by rw[e6];simp
  have a6:∀M,(h6++M)[y.length]? =some (.box 60 (jx z1)):=λM=>zk (by rw[e6];exact zt Y);have o6:OwnS y h6 24 2 xg (G.map qy):=by rw[e6];exact ho.set_box Y _
  clear e6 Y ho hGo;refine zz ?_;refine zZ [.res] 1 (oF [1,2] ((0,0,[2])::oF [3,4,5] ([]))) ?_;simp only[go_sem,b,a6];refine zl (c40 _) ?_;rintro _ h7 ⟨rfl,e7⟩;subst e7;simp only[go_sem,b,a6];obtain⟨h7,e7⟩:∃h7,h7=h6++[Ob.box 60 [i64 0,i64 1,i64 z1.2]]:=⟨_,rfl⟩;have p7:Pre y h7:=by rw[e7];exact p6.app (zW rfl)
  have a7:h7[y.length]? =some (.box 60 (jx z1)):=by rw[e7];exact a6 _
  have d7:h7[h6.length]? =some (.box 60 (jx ((0,1),z1.2))):=by rw[e7];exact qr rfl
  have o7:OwnS y h7 24 2 xg (G.map qy):=by rw[e7];exact o6.app _
  have l76:y.length<h6.length:=zb;rw[<-e7];clear e7
  have b7:∀M,(h7++M)[h.length]? =some (.box 30 (zN s a)):=λM=>by
   obtain⟨L,rfl,_⟩:=p7;rw[zq];exact zk b0
  have b70:h7[h.length]? =some (.box 30 (zN s a)):=by simpa using b7 []
  refine zZ [] 0 (oF [0,2,3,1] ((4,0,[1])::oF [5,6,7,8,9] ([]))) ?_;simp only[go_sem,t4,β,t3,b7,b70];refine zl (c45 _ xe ev wk (p7.sl he5) zb) ?_;rintro _ h8 ⟨rfl,e8⟩;subst e8;simp only[go_sem,t4,β,t3,b7,b70];refine zl (c18 (wr (s.fault*(xN ev wk:Int))) 1 (kz _) (by simp[Fit]) _) ?_;rintro _ h8 ⟨rfl,e8⟩;subst e8;obtain⟨mk,hmk⟩:∃mk,mk=make (wr (s.fault*(xN ev wk:Int))) 1:=⟨_,rfl⟩;rw[<-hmk];simp only[go_sem,t4,β,t3,b7,b70];refine zl (c44s _ h6.length ((0,1),z1.2) mk d7) ?_;rintro _ h8 ⟨rfl,e8⟩;obtain⟨N,τ⟩:∃N,N=jg ((0,1),z1.2) mk:=⟨_,rfl⟩;rw[<-τ] at e8;have p8:Pre y h8:=by rw[e8];exact p7.set zb rfl
  have a8:h8[y.length]? =some (.box 60 (jx z1)):=by rw[e8,zf zb];exact a7
  have d8:h8[h6.length]? =some (.box 60 (jx N)):=by rw[e8];exact zt d7
  have o8:OwnS y h8 24 2 xg (G.map qy):=by rw[e8];exact o7.set_box d7 _
  clear e8 o7 a7 d7;simp only[go_sem,d8,b];refine zl (c44s _ y.length z1 N a8) ?_;rintro _ h9 ⟨rfl,e9⟩;obtain⟨z2,hz2⟩:∃z2,z2=jg z1 N:=⟨_,rfl⟩;rw[<-hz2] at e9;have p9:Pre y h9:=by rw[e9];exact p8.set (zB _) rfl
  have a90:h9[y.length]? =some (.box 60 (jx z2)):=by rw[e9];exact zt a8
  have a9:∀M,(h9++M)[y.length]? =some (.box 60 (jx z2)):=λM=>zk a90;have d9:h9[h6.length]? =some (.box 60 (jx N)):=by rw[e9,zf zb];exact d8
  have o9:OwnS y h9 24 2 xg (G.map qy):=by rw[e9];exact o8.set_box a8 _
  clear e9 o8 a8 d8
  have hW:y0 s l w wk=wRa z2 N G O:=by
   rw[hp,hz2,τ,hmk,hz1,hz0,hG,hn0,hal,ω,hel];rfl
  have hn0f:Fit O:=by rw[hn0,hel];exact xva _ _ (by simp[Fit])
  rw[hW,kGa];clear hW;have flost:qp N.1:=by rw[τ,hmk];unfold jg;split;exact vD _ _;exact⟨by simp[Fit],by simp[Fit]⟩
  cases q5:z2.2==0
  ·have g2:¬ z2.2=0:=(by simpa using q5);rw[if_neg g2,if_neg (λq=>g2 q.1)];simp only[go_sem,b,a90,q5,qv];refine zZ [.res] 1 (oF [1,2] ((0,0,[2])::oF [3,4,5] ([]))) ?_;simp only[go_sem,b,a9];refine zl (c40 _) ?_;rintro _ σ ⟨rfl,α⟩;rw[α];clear α σ;simp only[go_sem,b,a9];obtain⟨U,Z⟩:∃U,U=h9++[Ob.box 60 [i64 0,i64 1,i64 z2.2]]:=⟨_,rfl⟩;have pD:Pre y U:=(by rw[Z];exact p9.app (zW rfl));have X:U[y.length]? =some (.box 60 (jx z2)):=(by rw[Z];exact a9 _);have V:U[h9.length]? =some (.box 60 (jx ((0,1),z2.2))):=(by rw[Z];exact qr rfl);have lD:y.length<h9.length:=(zj.1 a90).1;rw[<-Z];clear Z;by_cases g5:O>0/\z2.2=0
   ·exact absurd g5.2 g2
   ·obtain⟨C,S⟩:∃C:zL × Int,C=((0,1),z2.2):=⟨_,rfl⟩
    have hE:QF z2 O=if C.2=0 then⟨z2.1,O,C.1,0⟩ else⟨(0,0),O,(0,0),C.2⟩:=by
     unfold QF;simp only[if_neg g5];rw[S]
    rw[<-S] at V;by_cases g7:O>0
    ·have d5:decide (O>0)=true:=by simpa using g7
     have e5:(z2.2==0)=false:=by
      have:¬ z2.2=0:=λq=>g5 ⟨g7,q⟩;simpa using this
     simp only[go_sem,t9,d5,e5,qv,b,X];obtain⟨M,hM,nM⟩:=pD;have d:U=h++ .box 30 (zN s a):: .box 24 [i64 0,i64 0]:: .box 24 [i64 0,i64 0]::(L1++(L2++M)):=(by rw[hM,P];simp);have I:∀E F,(h++ .box 30 (zN s a)::E::F::(L1++(L2++M)))[y.length]? =some (.box 60 (jx z2)):=λE F=>(by rw[kJ (p1:= .box 24 [i64 0,i64 0]) (p2:= .box 24 [i64 0,i64 0]) Q, <-d];exact X);have H:∀E F,(h++ .box 30 (zN s a)::E::F::(L1++(L2++M)))[h9.length]? =some (.box 60 (jx C)):=λE F=>(by rw[kJ (p1:= .box 24 [i64 0,i64 0]) (p2:= .box 24 [i64 0,i64 0]) zb, <-d];exact V);rw[d];rw[hE];clear X V d;by_cases J:C.2=0
     ·have f6:(C.2 != 0)=false:=(by simpa using J);rw[if_pos J];simp only[go_sem,I,H,f6,t4,D,t9,u,b];refine zZ [] 0 (oF [0,2,3,1,4] ((5,0,[4])::oF [6,7,8] ([]))) ?_;simp only[go_sem,I,H,t4,D,t9,u,b];exact zm (by simp only[go_sem,D,u]<;>try rfl)
     ·have f6:(C.2 != 0)=true:=(by simpa using J);rw[if_neg J];simp only[go_sem,I,H,f6,t4,D,t9,u,b];refine zZ [] 0 (oF [0,1,2,3,4] ((5,0,[4])::(6,0,[])::(7,0,[4])::(8,0,[])::[])) ?_;simp only[go_sem,I,H,t4,D,t9,u,b];exact zm (by simp only[go_sem,D,u]<;>try rfl)
    ·have d5:decide (O>0)=false:=(by simpa using g7);simp only[go_sem,t9,d5,qv,b];obtain⟨M,hM,nM⟩:=pD;have d:U=h++ .box 30 (zN s a):: .box 24 [i64 0,i64 0]:: .box 24 [i64 0,i64 0]::(L1++(L2++M)):=(by rw[hM,P];simp);have I:∀E F,(h++ .box 30 (zN s a)::E::F::(L1++(L2++M)))[y.length]? =some (.box 60 (jx z2)):=λE F=>(by rw[kJ (p1:= .box 24 [i64 0,i64 0]) (p2:= .box 24 [i64 0,i64 0]) Q, <-d];exact X);have H:∀E F,(h++ .box 30 (zN s a)::E::F::(L1++(L2++M)))[h9.length]? =some (.box 60 (jx C)):=λE F=>(by rw[kJ (p1:= .box 24 [i64 0,i64 0]) (p2:= .box 24 [i64 0,i64 0]) zb, <-d];exact V);rw[d];rw[hE];clear X V d;by_cases J:C.2=0
     ·have f6:(C.2 != 0)=false:=(by simpa using J);rw[if_pos J];simp only[go_sem,I,H,f6,t4,D,t9,u,b];refine zZ [] 0 (oF [0,2,3,1,4] ((5,0,[4])::oF [6,7,8] ([]))) ?_;simp only[go_sem,I,H,t4,D,t9,u,b];exact zm (by simp only[go_sem,D,u]<;>try rfl)
     ·have f6:(C.2 != 0)=true:=(by simpa using J);rw[if_neg J];simp only[go_sem,I,H,f6,t4,D,t9,u,b];refine zZ [] 0 (oF [0,1,2,3,4] ((5,0,[4])::(6,0,[])::(7,0,[4])::(8,0,[])::[])) ?_;simp only[go_sem,I,H,t4,D,t9,u,b];exact zm (by simp only[go_sem,D,u]<;>try rfl)
  ·have g2:z2.2=0:=(by simpa using q5);rw[if_pos g2];simp only[go_sem,b,t16,a90,q5,qv];refine zl (c23 _ xg G hGf hGl o9.rows) ?_;rintro _ h10 ⟨rfl,e10⟩;rw[e10];clear e10 h10;have d9M:∀M,(h9++M)[h6.length]? =some (.box 60 (jx N)):=λM=>zk d9;simp only[go_sem,d9,a9,d9M];refine zl (c19 (jB G).1 N.1 (Qi G) flost _) ?_;rintro _ h10 ⟨rfl,e10⟩;rw[e10];clear e10 h10;have hsub:kA Zr (jB G).1 N.1=vr (jB G).1 N.1:=rfl;rw[hsub];simp only[go_sem,b];refine zl (c44s _ y.length z2 (vr (jB G).1 N.1) (a9 _)) ?_;rintro _ hC ⟨rfl,eC⟩;obtain⟨z3,hz3⟩:∃z3,z3=jg z2 (vr (jB G).1 N.1):=⟨_,rfl⟩;rw[<-hz3] at eC⊢;have pC:Pre y hC:=(by rw[eC];exact(p9.app (zW rfl)).set (zB _) rfl);have κ:hC[y.length]? =some (.box 60 (jx z3)):=(by rw[eC];exact zt (a9 _));have aC:∀M,(hC++M)[y.length]? =some (.box 60 (jx z3)):=λM=>zk κ;have fz3:qp z3.1:=(by rw[hz3];unfold jg;rw[if_pos g2];exact vV _ _ _);clear eC;cases q6:z3.2==0
   ·have g3:¬ z3.2=0:=(by simpa using q6);rw[if_neg (λq=>g3 q.1)];simp only[go_sem,b,κ,q6,qv];refine zZ [.res] 1 (oF [1,2] ((0,0,[2])::oF [3,4,5] ([]))) ?_;simp only[go_sem,b,aC];refine zl (c40 _) ?_;rintro _ σ ⟨rfl,α⟩;rw[α];clear α σ;simp only[go_sem,b,aC];obtain⟨U,Z⟩:∃U,U=hC++[Ob.box 60 [i64 0,i64 1,i64 z3.2]]:=⟨_,rfl⟩;have pD:Pre y U:=(by rw[Z];exact pC.app (zW rfl));have X:U[y.length]? =some (.box 60 (jx z3)):=(by rw[Z];exact aC _);have V:U[hC.length]? =some (.box 60 (jx ((0,1),z3.2))):=(by rw[Z];exact qr rfl);have lD:y.length<hC.length:=(zj.1 κ).1;rw[<-Z];clear Z;by_cases g5:O>0/\z3.2=0
    ·exact absurd g5.2 g3
    ·obtain⟨C,S⟩:∃C:zL × Int,C=((0,1),z3.2):=⟨_,rfl⟩
     have hE:QF z3 O=if C.2=0 then⟨z3.1,O,C.1,0⟩ else⟨(0,0),O,(0,0),C.2⟩:=by
      unfold QF;simp only[if_neg g5];rw[S]
     rw[<-S] at V;by_cases g7:O>0
     ·have d5:decide (O>0)=true:=by simpa using g7
      have e5:(z3.2==0)=false:=by
       have:¬ z3.2=0:=λq=>g5 ⟨g7,q⟩;simpa using this
      simp only[go_sem,t9,d5,e5,qv,b,X];obtain⟨M,hM,nM⟩:=pD;have d:U=h++ .box 30 (zN s a):: .box 24 [i64 0,i64 0]:: .box 24 [i64 0,i64 0]::(L1++(L2++M)):=(by rw[hM,P];simp);have I:∀E F,(h++ .box 30 (zN s a)::E::F::(L1++(L2++M)))[y.length]? =some (.box 60 (jx z3)):=λE F=>(by rw[kJ (p1:= .box 24 [i64 0,i64 0]) (p2:= .box 24 [i64 0,i64 0]) Q, <-d];exact X);have H:∀E F,(h++ .box 30 (zN s a)::E::F::(L1++(L2++M)))[hC.length]? =some (.box 60 (jx C)):=λE F=>(by rw[kJ (p1:= .box 24 [i64 0,i64 0]) (p2:= .box 24 [i64 0,i64 0]) zb, <-d];exact V);rw[d];rw[hE];clear X V d;by_cases J:C.2=0
      ·have f6:(C.2 != 0)=false:=(by simpa using J);rw[if_pos J];simp only[go_sem,I,H,f6,t4,D,t9,u,b];refine zZ [] 0 (oF [0,2,3,1,4] ((5,0,[4])::oF [6,7,8] ([]))) ?_;simp only[go_sem,I,H,t4,D,t9,u,b];exact zm (by simp only[go_sem,D,u]<;>try rfl)
      ·have f6:(C.2 != 0)=true:=(by simpa using J);rw[if_neg J];simp only[go_sem,I,H,f6,t4,D,t9,u,b];refine zZ [] 0 (oF [0,1,2,3,4] ((5,0,[4])::(6,0,[])::(7,0,[4])::(8,0,[])::[])) ?_;simp only[go_sem,I,H,t4,D,t9,u,b];exact zm (by simp only[go_sem,D,u]<;>try rfl)
     ·have d5:decide (O>0)=false:=(by simpa using g7);simp only[go_sem,t9,d5,qv,b];obtain⟨M,hM,nM⟩:=pD;have d:U=h++ .box 30 (zN s a):: .box 24 [i64 0,i64 0]:: .box 24 [i64 0,i64 0]::(L1++(L2++M)):=(by rw[hM,P];simp);have I:∀E F,(h++ .box 30 (zN s a)::E::F::(L1++(L2++M)))[y.length]? =some (.box 60 (jx z3)):=λE F=>(by rw[kJ (p1:= .box 24 [i64 0,i64 0]) (p2:= .box 24 [i64 0,i64 0]) Q, <-d];exact X);have H:∀E F,(h++ .box 30 (zN s a)::E::F::(L1++(L2++M)))[hC.length]? =some (.box 60 (jx C)):=λE F=>(by rw[kJ (p1:= .box 24 [i64 0,i64 0]) (p2:= .box 24 [i64 0,i64 0]) zb, <-d];exact V);rw[d];rw[hE];clear X V d;by_cases J:C.2=0
      ·have f6:(C.2 != 0)=false:=(by simpa using J);rw[if_pos J];simp only[go_sem,I,H,f6,t4,D,t9,u,b];refine zZ [] 0 (oF [0,2,3,1,4] ((5,0,[4])::oF [6,7,8] ([]))) ?_;simp only[go_sem,I,H,t4,D,t9,u,b];exact zm (by simp only[go_sem,D,u]<;>try rfl)
      ·have f6:(C.2 != 0)=true:=(by simpa using J);rw[if_neg J];simp only[go_sem,I,H,f6,t4,D,t9,u,b];refine zZ [] 0 (oF [0,1,2,3,4] ((5,0,[4])::(6,0,[])::(7,0,[4])::(8,0,[])::[])) ?_;simp only[go_sem,I,H,t4,D,t9,u,b];exact zm (by simp only[go_sem,D,u]<;>try rfl)
   ·have g3:z3.2=0:=(by simpa using q6);cases q7:decide (z3.1.1<0)
    ·have g4:¬ z3.1.1<0:=(by simpa using q7);rw[if_neg (λq=>g4 q.2)];simp only[go_sem,b,κ,q6,q7,qv];refine zZ [.res] 1 (oF [1,2] ((0,0,[2])::oF [3,4,5] ([]))) ?_;simp only[go_sem,b,aC];refine zl (c40 _) ?_;rintro _ σ ⟨rfl,α⟩;rw[α];clear α σ;simp only[go_sem,b,aC];obtain⟨U,Z⟩:∃U,U=hC++[Ob.box 60 [i64 0,i64 1,i64 z3.2]]:=⟨_,rfl⟩;have pD:Pre y U:=(by rw[Z];exact pC.app (zW rfl));have X:U[y.length]? =some (.box 60 (jx z3)):=(by rw[Z];exact aC _);have V:U[hC.length]? =some (.box 60 (jx ((0,1),z3.2))):=(by rw[Z];exact qr rfl);have lD:y.length<hC.length:=(zj.1 κ).1;rw[<-Z];clear Z;by_cases g5:O>0/\z3.2=0
     ·have d5:decide (O>0)=true:=(by simpa using g5.1);have e5:(z3.2==0)=true:=(by simpa using g5.2);simp only[go_sem,t9,d5,e5,qv,b,X,V];refine zl (c18 O 1 hn0f (by simp[Fit]) _) ?_;rintro _ h21 ⟨rfl,e21⟩;rw[e21];clear e21 h21;obtain⟨mn,ο⟩:∃mn,mn=make O 1:=⟨_,rfl⟩;rw[<-ο];have fmn:qp mn.1:=(by rw[ο];exact vD _ _);refine zz ?_;refine zl (c44s _ hC.length ((0,1),z3.2) mn (zk V)) ?_;rintro _ ι ⟨rfl,eE⟩;obtain⟨dm,hdm⟩:∃dm,dm=jg ((0,1),z3.2) mn:=⟨_,rfl⟩;rw[<-hdm] at eE;have pE:Pre y ι:=(by rw[eE];exact(pD.app (zW rfl)).set zb rfl);have aE:ι[y.length]? =some (.box 60 (jx z3)):=by rw[eE,zf zb];exact zk X
      have bE:ι[U.length]? =some (.box 24 [i64 mn.1.1,i64 mn.1.2]):=by
       have:=(zj.1 V).1;rw[eE,zf zb];exact qr rfl
      have dE:ι[hC.length]? =some (.box 60 (jx dm)):=(by rw[eE];exact zt (zk V));clear eE X V;simp only[go_sem,b,aE,bE];refine zl (c46 z3.1 mn.1 fz3 fmn _) ?_;rintro _ h22 ⟨rfl,e22⟩;rw[e22];clear e22 h22;obtain⟨dv,hdv⟩:∃dv,dv=wy z3.1 mn.1:=⟨_,rfl⟩;have hdv2:kA jEa z3.1 mn.1=dv:=hdv.symm;rw[hdv2];refine zz ?_;refine zl (c44s _ hC.length dm dv dE) ?_;rintro _ hG ⟨rfl,eG⟩;obtain⟨C,S⟩:∃C,C=jg dm dv:=⟨_,rfl⟩;rw[<-S] at eG;have pG:Pre y hG:=(by rw[eG];exact pE.set zb rfl);have aG:hG[y.length]? =some (.box 60 (jx z3)):=(by rw[eG,zf zb];exact aE);have dG:hG[hC.length]? =some (.box 60 (jx C)):=(by rw[eG];exact zt dE);clear eG aE bE dE
      have hE:QF z3 O=if C.2=0 then⟨z3.1,O,C.1,0⟩ else⟨(0,0),O,(0,0),C.2⟩:=by
       unfold QF;simp only[if_pos g5];rw[<-ο, <-hdm, <-hdv, <-S]
      obtain⟨M,hM,nM⟩:=pG;have d:hG=h++ .box 30 (zN s a):: .box 24 [i64 0,i64 0]:: .box 24 [i64 0,i64 0]::(L1++(L2++M)):=(by rw[hM,P];simp);have I:∀E F,(h++ .box 30 (zN s a)::E::F::(L1++(L2++M)))[y.length]? =some (.box 60 (jx z3)):=λE F=>(by rw[kJ (p1:= .box 24 [i64 0,i64 0]) (p2:= .box 24 [i64 0,i64 0]) Q, <-d];exact aG);have H:∀E F,(h++ .box 30 (zN s a)::E::F::(L1++(L2++M)))[hC.length]? =some (.box 60 (jx C)):=λE F=>(by rw[kJ (p1:= .box 24 [i64 0,i64 0]) (p2:= .box 24 [i64 0,i64 0]) zb, <-d];exact dG);rw[d];rw[hE];clear aG dG d;by_cases J:C.2=0
      ·have f6:(C.2 != 0)=false:=(by simpa using J);rw[if_pos J];simp only[go_sem,I,H,f6,t4,D,t9,u,b];refine zZ [] 0 (oF [0,2,3,1,4] ((5,0,[4])::oF [6,7,8] ([]))) ?_;simp only[go_sem,I,H,t4,D,t9,u,b];exact zm (by simp only[go_sem,D,u]<;>try rfl)
      ·have f6:(C.2 != 0)=true:=(by simpa using J);rw[if_neg J];simp only[go_sem,I,H,f6,t4,D,t9,u,b];refine zZ [] 0 (oF [0,1,2,3,4] ((5,0,[4])::(6,0,[])::(7,0,[4])::(8,0,[])::[])) ?_;simp only[go_sem,I,H,t4,D,t9,u,b];exact zm (by simp only[go_sem,D,u]<;>try rfl)
     ·obtain⟨C,S⟩:∃C:zL × Int,C=((0,1),z3.2):=⟨_,rfl⟩
      have hE:QF z3 O=if C.2=0 then⟨z3.1,O,C.1,0⟩ else⟨(0,0),O,(0,0),C.2⟩:=by
       unfold QF;simp only[if_neg g5];rw[S]
      rw[<-S] at V;by_cases g7:O>0
      ·have d5:decide (O>0)=true:=by simpa using g7
       have e5:(z3.2==0)=false:=by
        have:¬ z3.2=0:=λq=>g5 ⟨g7,q⟩;simpa using this
       simp only[go_sem,t9,d5,e5,qv,b,X];obtain⟨M,hM,nM⟩:=pD;have d:U=h++ .box 30 (zN s a):: .box 24 [i64 0,i64 0]:: .box 24 [i64 0,i64 0]::(L1++(L2++M)):=(by rw[hM,P];simp);have I:∀E F,(h++ .box 30 (zN s a)::E::F::(L1++(L2++M)))[y.length]? =some (.box 60 (jx z3)):=λE F=>(by rw[kJ (p1:= .box 24 [i64 0,i64 0]) (p2:= .box 24 [i64 0,i64 0]) Q, <-d];exact X);have H:∀E F,(h++ .box 30 (zN s a)::E::F::(L1++(L2++M)))[hC.length]? =some (.box 60 (jx C)):=λE F=>(by rw[kJ (p1:= .box 24 [i64 0,i64 0]) (p2:= .box 24 [i64 0,i64 0]) zb, <-d];exact V);rw[d];rw[hE];clear X V d;by_cases J:C.2=0
       ·have f6:(C.2 != 0)=false:=(by simpa using J);rw[if_pos J];simp only[go_sem,I,H,f6,t4,D,t9,u,b];refine zZ [] 0 (oF [0,2,3,1,4] ((5,0,[4])::oF [6,7,8] ([]))) ?_;simp only[go_sem,I,H,t4,D,t9,u,b];exact zm (by simp only[go_sem,D,u]<;>try rfl)
       ·have f6:(C.2 != 0)=true:=(by simpa using J);rw[if_neg J];simp only[go_sem,I,H,f6,t4,D,t9,u,b];refine zZ [] 0 (oF [0,1,2,3,4] ((5,0,[4])::(6,0,[])::(7,0,[4])::(8,0,[])::[])) ?_;simp only[go_sem,I,H,t4,D,t9,u,b];exact zm (by simp only[go_sem,D,u]<;>try rfl)
      ·have d5:decide (O>0)=false:=(by simpa using g7);simp only[go_sem,t9,d5,qv,b];obtain⟨M,hM,nM⟩:=pD;have d:U=h++ .box 30 (zN s a):: .box 24 [i64 0,i64 0]:: .box 24 [i64 0,i64 0]::(L1++(L2++M)):=(by rw[hM,P];simp);have I:∀E F,(h++ .box 30 (zN s a)::E::F::(L1++(L2++M)))[y.length]? =some (.box 60 (jx z3)):=λE F=>(by rw[kJ (p1:= .box 24 [i64 0,i64 0]) (p2:= .box 24 [i64 0,i64 0]) Q, <-d];exact X);have H:∀E F,(h++ .box 30 (zN s a)::E::F::(L1++(L2++M)))[hC.length]? =some (.box 60 (jx C)):=λE F=>(by rw[kJ (p1:= .box 24 [i64 0,i64 0]) (p2:= .box 24 [i64 0,i64 0]) zb, <-d];exact V);rw[d];rw[hE];clear X V d;by_cases J:C.2=0
       ·have f6:(C.2 != 0)=false:=(by simpa using J);rw[if_pos J];simp only[go_sem,I,H,f6,t4,D,t9,u,b];refine zZ [] 0 (oF [0,2,3,1,4] ((5,0,[4])::oF [6,7,8] ([]))) ?_;simp only[go_sem,I,H,t4,D,t9,u,b];exact zm (by simp only[go_sem,D,u]<;>try rfl)
       ·have f6:(C.2 != 0)=true:=(by simpa using J);rw[if_neg J];simp only[go_sem,I,H,f6,t4,D,t9,u,b];refine zZ [] 0 (oF [0,1,2,3,4] ((5,0,[4])::(6,0,[])::(7,0,[4])::(8,0,[])::[])) ?_;simp only[go_sem,I,H,t4,D,t9,u,b];exact zm (by simp only[go_sem,D,u]<;>try rfl)
    ·have g4:z3.1.1<0:=(by simpa using q7);rw[if_pos ⟨g3,g4⟩];simp only[go_sem,b,κ,q6,q7,qv];refine zl (c40 _) ?_;rintro _ h12 ⟨rfl,e12⟩;rw[e12];clear e12 h12;simp only[go_sem,b,κ];obtain⟨z4,hz4⟩:∃z4:zL × Int,z4=((0,1),z3.2):=⟨_,rfl⟩;obtain⟨hK,eK⟩:∃hK,hK=hC.set y.length (.box 60 [i64 0,i64 1,i64 z3.2]):=⟨_,rfl⟩;have pK:Pre y hK:=(by rw[eK];exact pC.set (zB _) rfl);have aK0:hK[y.length]? =some (.box 60 (jx z4)):=(by rw[eK,zt κ,hz4]);have aK:∀M,(hK++M)[y.length]? =some (.box 60 (jx z4)):=λM=>zk aK0;have fz4:qp z4.1:=(by rw[hz4];exact⟨by simp[Fit],by simp[Fit]⟩);rw[<-eK, <-hz4];clear eK;refine zZ [.res] 1 (oF [1,2] ((0,0,[2])::oF [3,4,5] ([]))) ?_;simp only[go_sem,b,aK];refine zl (c40 _) ?_;rintro _ σ ⟨rfl,α⟩;rw[α];clear α σ;simp only[go_sem,b,aK];obtain⟨U,Z⟩:∃U,U=hK++[Ob.box 60 [i64 0,i64 1,i64 z4.2]]:=⟨_,rfl⟩;have pD:Pre y U:=(by rw[Z];exact pK.app (zW rfl));have X:U[y.length]? =some (.box 60 (jx z4)):=(by rw[Z];exact aK _);have V:U[hK.length]? =some (.box 60 (jx ((0,1),z4.2))):=(by rw[Z];exact qr rfl);have lD:y.length<hK.length:=(zj.1 aK0).1;rw[<-Z];clear Z;by_cases g5:O>0/\z4.2=0
     ·have d5:decide (O>0)=true:=(by simpa using g5.1);have e5:(z4.2==0)=true:=(by simpa using g5.2);simp only[go_sem,t9,d5,e5,qv,b,X,V];refine zl (c18 O 1 hn0f (by simp[Fit]) _) ?_;rintro _ h21 ⟨rfl,e21⟩;rw[e21];clear e21 h21;obtain⟨mn,ο⟩:∃mn,mn=make O 1:=⟨_,rfl⟩;rw[<-ο];have fmn:qp mn.1:=(by rw[ο];exact vD _ _);refine zz ?_;refine zl (c44s _ hK.length ((0,1),z4.2) mn (zk V)) ?_;rintro _ ι ⟨rfl,eE⟩;obtain⟨dm,hdm⟩:∃dm,dm=jg ((0,1),z4.2) mn:=⟨_,rfl⟩;rw[<-hdm] at eE;have pE:Pre y ι:=(by rw[eE];exact(pD.app (zW rfl)).set zb rfl);have aE:ι[y.length]? =some (.box 60 (jx z4)):=by rw[eE,zf zb];exact zk X
      have bE:ι[U.length]? =some (.box 24 [i64 mn.1.1,i64 mn.1.2]):=by
       have:=(zj.1 V).1;rw[eE,zf zb];exact qr rfl
      have dE:ι[hK.length]? =some (.box 60 (jx dm)):=(by rw[eE];exact zt (zk V));clear eE X V;simp only[go_sem,b,aE,bE];refine zl (c46 z4.1 mn.1 fz4 fmn _) ?_;rintro _ h22 ⟨rfl,e22⟩;rw[e22];clear e22 h22;obtain⟨dv,hdv⟩:∃dv,dv=wy z4.1 mn.1:=⟨_,rfl⟩;have hdv2:kA jEa z4.1 mn.1=dv:=hdv.symm;rw[hdv2];refine zz ?_;refine zl (c44s _ hK.length dm dv dE) ?_;rintro _ hG ⟨rfl,eG⟩;obtain⟨C,S⟩:∃C,C=jg dm dv:=⟨_,rfl⟩;rw[<-S] at eG;have pG:Pre y hG:=(by rw[eG];exact pE.set zb rfl);have aG:hG[y.length]? =some (.box 60 (jx z4)):=(by rw[eG,zf zb];exact aE);have dG:hG[hK.length]? =some (.box 60 (jx C)):=(by rw[eG];exact zt dE);clear eG aE bE dE
      have hE:QF z4 O=if C.2=0 then⟨z4.1,O,C.1,0⟩ else⟨(0,0),O,(0,0),C.2⟩:=by
       unfold QF;simp only[if_pos g5];rw[<-ο, <-hdm, <-hdv, <-S]
      obtain⟨M,hM,nM⟩:=pG;have d:hG=h++ .box 30 (zN s a):: .box 24 [i64 0,i64 0]:: .box 24 [i64 0,i64 0]::(L1++(L2++M)):=(by rw[hM,P];simp);have I:∀E F,(h++ .box 30 (zN s a)::E::F::(L1++(L2++M)))[y.length]? =some (.box 60 (jx z4)):=λE F=>(by rw[kJ (p1:= .box 24 [i64 0,i64 0]) (p2:= .box 24 [i64 0,i64 0]) Q, <-d];exact aG);have H:∀E F,(h++ .box 30 (zN s a)::E::F::(L1++(L2++M)))[hK.length]? =some (.box 60 (jx C)):=λE F=>(by rw[kJ (p1:= .box 24 [i64 0,i64 0]) (p2:= .box 24 [i64 0,i64 0]) zb, <-d];exact dG);rw[d];rw[hE];clear aG dG d;by_cases J:C.2=0
      ·have f6:(C.2 != 0)=false:=(by simpa using J);rw[if_pos J];simp only[go_sem,I,H,f6,t4,D,t9,u,b];refine zZ [] 0 (oF [0,2,3,1,4] ((5,0,[4])::oF [6,7,8] ([]))) ?_;simp only[go_sem,I,H,t4,D,t9,u,b];exact zm (by simp only[go_sem,D,u]<;>try rfl)
      ·have f6:(C.2 != 0)=true:=(by simpa using J);rw[if_neg J];simp only[go_sem,I,H,f6,t4,D,t9,u,b];refine zZ [] 0 (oF [0,1,2,3,4] ((5,0,[4])::(6,0,[])::(7,0,[4])::(8,0,[])::[])) ?_;simp only[go_sem,I,H,t4,D,t9,u,b];exact zm (by simp only[go_sem,D,u]<;>try rfl)
     ·obtain⟨C,S⟩:∃C:zL × Int,C=((0,1),z4.2):=⟨_,rfl⟩
      have hE:QF z4 O=if C.2=0 then⟨z4.1,O,C.1,0⟩ else⟨(0,0),O,(0,0),C.2⟩:=by
       unfold QF;simp only[if_neg g5];rw[S]
      rw[<-S] at V;by_cases g7:O>0
      ·have d5:decide (O>0)=true:=by simpa using g7
       have e5:(z4.2==0)=false:=by
        have:¬ z4.2=0:=λq=>g5 ⟨g7,q⟩;simpa using this
       simp only[go_sem,t9,d5,e5,qv,b,X];obtain⟨M,hM,nM⟩:=pD;have d:U=h++ .box 30 (zN s a):: .box 24 [i64 0,i64 0]:: .box 24 [i64 0,i64 0]::(L1++(L2++M)):=(by rw[hM,P];simp);have I:∀E F,(h++ .box 30 (zN s a)::E::F::(L1++(L2++M)))[y.length]? =some (.box 60 (jx z4)):=λE F=>(by rw[kJ (p1:= .box 24 [i64 0,i64 0]) (p2:= .box 24 [i64 0,i64 0]) Q, <-d];exact X);have H:∀E F,(h++ .box 30 (zN s a)::E::F::(L1++(L2++M)))[hK.length]? =some (.box 60 (jx C)):=λE F=>(by rw[kJ (p1:= .box 24 [i64 0,i64 0]) (p2:= .box 24 [i64 0,i64 0]) zb, <-d];exact V);rw[d];rw[hE];clear X V d;by_cases J:C.2=0
       ·have f6:(C.2 != 0)=false:=(by simpa using J);rw[if_pos J];simp only[go_sem,I,H,f6,t4,D,t9,u,b];refine zZ [] 0 (oF [0,2,3,1,4] ((5,0,[4])::oF [6,7,8] ([]))) ?_;simp only[go_sem,I,H,t4,D,t9,u,b];exact zm (by simp only[go_sem,D,u]<;>try rfl)
       ·have f6:(C.2 != 0)=true:=(by simpa using J);rw[if_neg J];simp only[go_sem,I,H,f6,t4,D,t9,u,b];refine zZ [] 0 (oF [0,1,2,3,4] ((5,0,[4])::(6,0,[])::(7,0,[4])::(8,0,[])::[])) ?_;simp only[go_sem,I,H,t4,D,t9,u,b];exact zm (by simp only[go_sem,D,u]<;>try rfl)
      ·have d5:decide (O>0)=false:=(by simpa using g7);simp only[go_sem,t9,d5,qv,b];obtain⟨M,hM,nM⟩:=pD;have d:U=h++ .box 30 (zN s a):: .box 24 [i64 0,i64 0]:: .box 24 [i64 0,i64 0]::(L1++(L2++M)):=(by rw[hM,P];simp);have I:∀E F,(h++ .box 30 (zN s a)::E::F::(L1++(L2++M)))[y.length]? =some (.box 60 (jx z4)):=λE F=>(by rw[kJ (p1:= .box 24 [i64 0,i64 0]) (p2:= .box 24 [i64 0,i64 0]) Q, <-d];exact X);have H:∀E F,(h++ .box 30 (zN s a)::E::F::(L1++(L2++M)))[hK.length]? =some (.box 60 (jx C)):=λE F=>(by rw[kJ (p1:= .box 24 [i64 0,i64 0]) (p2:= .box 24 [i64 0,i64 0]) zb, <-d];exact V);rw[d];rw[hE];clear X V d;by_cases J:C.2=0
       ·have f6:(C.2 != 0)=false:=(by simpa using J);rw[if_pos J];simp only[go_sem,I,H,f6,t4,D,t9,u,b];refine zZ [] 0 (oF [0,2,3,1,4] ((5,0,[4])::oF [6,7,8] ([]))) ?_;simp only[go_sem,I,H,t4,D,t9,u,b];exact zm (by simp only[go_sem,D,u]<;>try rfl)
       ·have f6:(C.2 != 0)=true:=(by simpa using J);rw[if_neg J];simp only[go_sem,I,H,f6,t4,D,t9,u,b];refine zZ [] 0 (oF [0,1,2,3,4] ((5,0,[4])::(6,0,[])::(7,0,[4])::(8,0,[])::[])) ?_;simp only[go_sem,I,H,t4,D,t9,u,b];exact zm (by simp only[go_sem,D,u]<;>try rfl)
end
