import Derived.Test.YtigdlmpjijhpaaaGreatKA
import Derived.Test.YtigdlmpjijhpaaaGreatK29
set_option linter.all false
namespace Go.Proofs.YtigdlmpjijhpaaaGreat.Ax
open Go Go.Proofs
set_option maxRecDepth 100000
abbrev jrb(v:PerfV):AV:= .tup [rat v.earned,i64 v.eligible,rat v.perf,i64 v.err]
abbrev j9(z:qw × Int):List AV:=[i64 z.1.1,i64 z.1.2,i64 z.2]
theorem Wga(z v:qw × Int):(if z.2=0 then [i64 v.1.1,i64 v.1.2,i64 v.2] else [i64 z.1.1,i64 z.1.2,i64 z.2])=j9 (jf z v):=by
 unfold jf
 split<;>rfl
theorem qia(h:List Ob)(j:Nat)(z v:qw × Int)(b:h[j]? =some (.box 210 (j9 z))):
  ACalls Tryz.prog 127 [.ptr j 0,rat v.1,i64 v.2] h λr h'=>r= .tup []/\h'=h.set j (.box 210 (j9 (jf z v))):=
 (c44 h j z.1.1 z.1.2 z.2 v.1 v.2 b).mono λr h' ⟨c,a⟩=>⟨c,by rw[a,Wga]⟩
theorem Wha{l:List Ev}{g:Seg}{A R:List Ev}{x:Ev}(c:l=A++x::R)(d:∀e∈A,Za g.id e=false)(a:Za g.id x=true):kY l g=x:=by
 unfold kY
 rw[c,List.find?_append,List.find?_eq_none.2 (λe b=>by rw[d e b];simp)]
 simp[a]
theorem kKa{s:Setup}{l:List Ev}{w:Int}(c:z6 s=true){g:Seg}(h:g∈(qA s l w).1)(d:g.kind=1):∃e∈l,Za g.id e=true:=by
 obtain⟨e,⟨f,j,i⟩,b⟩:=(yU (l:=l) (w:=w) c).2 g h
 refine⟨e,f,?_⟩
 have a:e.kind=3:=by
  have:=b.2.1
  rw[d] at this
  unfold JZ at this
  split at this
  ·assumption
  ·split at this
   ·cases this
   ·split at this<;>cases this
 simp[Za,a,b.1]
theorem X2a{s:Setup}{w:Int}{l:List Ev}:(XP s w l).length<=l.length:=by
 have:=qh (λe=> !Ql s w e) (qu l)
 rw[xj] at this
 exact this
theorem WI{s:Setup}{l:List Ev}{w:Int}:(qA s l w).1.length<=3*l.length+1:=by
 have c:=xj l
 have b:szT (goP s w (qu l))<=szT ⟨none,[],[]⟩+3*(qu l).length:=v8a (qu l)
 have a:szT ⟨none,[],[]⟩=0:=rfl
 have d:=K8 (s:=s) (t:=goP s w (qu l)) (at_:=32054400)
 unfold qA
 split
 ·simp only[szT] at d b a⊢
  omega
 ·simp
theorem Qua(s:Setup)(e:Ev):jq (xQ s e).1:=by
 have d:∀c,jq (ZK s e c).1:=λc=>by
  unfold ZK
  simp only
  exact zza (f:=JE) (λa b=>KY jNa a b) _ _ _
 unfold xQ
 split
 ·split
  ·exact QH
  ·split
   ·exact d _
   ·exact QH
 ·exact QH
def jsb(c d:qw × Int)(G:List qw)(e:Int):PerfV:=
 let b:=if c.2=0 then jf c (ZV (y8 G).1 d.1) else c
 let a:=if b.2=0/\b.1.1<0 then((0,1),b.2) else b
 let done:=if e>0/\a.2=0 then jf (jf ((0,1),a.2) (make e 1)) (VW a.1 (make e 1).1) else((0,1),a.2)
 if done.2=0 then⟨a.1,e,done.1,0⟩ else⟨(0,0),e,(0,0),done.2⟩
def V3(a:qw × Int)(b:Int):PerfV:=
 if(if b>0/\a.2=0 then jf (jf ((0,1),a.2) (make b 1)) (VW a.1 (make b 1).1) else((0,1),a.2)).2=0
 then⟨a.1,b,(if b>0/\a.2=0 then jf (jf ((0,1),a.2) (make b 1)) (VW a.1 (make b 1).1) else((0,1),a.2)).1,0⟩
 else⟨(0,0),b,(0,0),(if b>0/\a.2=0 then jf (jf ((0,1),a.2) (make b 1)) (VW a.1 (make b 1).1) else((0,1),a.2)).2⟩
theorem Wia(a b:qw × Int)(G:List qw)(c:Int):jsb a b G c=V3 (if(if a.2=0 then jf a (ZV (y8 G).1 b.1) else a).2=0/\(if a.2=0 then jf a (ZV (y8 G).1 b.1) else a).1.1<0 then((0,1),(if a.2=0 then jf a (ZV (y8 G).1 b.1) else a).2) else(if a.2=0 then jf a (ZV (y8 G).1 b.1) else a)) c:=rfl
theorem X3a:∀(l:List Seg) (z:Int),Fit z->Fit (l.foldl (λn g=>wr (n+wr (g.to_ - g.from_))) z)
 | [],_,h=>h
 | _::l,_,_=>X3a l _ (wE _)
theorem wO{h R:List Ob}{b a c p1 p2:Ob}{i:Nat}(hi:h.length+3<=i):(h++b::a::c::R)[i]? =(h++b::p1::p2::R)[i]? :=by
 rw[zX (by omega),zX (by omega)]
 obtain⟨r,d⟩:∃r,i - h.length=r+3:=⟨i - h.length - 3,by omega⟩
 rw[d]
 rfl
set_option maxHeartbeats 8000000 in
theorem c15(h:List Ob)(s:Setup)(a:SA)(k:SIn h s a)(f:SFit s)(x:AV)(l:List Ev)(w wk:Int)(hx:SlOf h x 11 (l.map evC))(hl:l.length<262144):
  ACalls Tryz.prog 58 [jg s a,x,i64 w,i64 wk] h λr h'=>r=jrb (vz s l w wk)/\h'=h:=by
 refine zj Tryz.f58 [.cell 8 24,.tmp 9,.cell 10 24,.tmp 11] 178 rfl rfl rfl rfl rfl rfl (by decide) (⟨_,_,⟨rfl,rfl⟩,.refl⟩) λB=>?_
 simp only[go_sem,k.w.one,k.e.one,k.c.one,k.g.one,k.r.one,k.t.one]
 refine zh (c16 _ s a (k.app _) f) ?_
 rintro _ h1 ⟨rfl,e2⟩
 subst e2
 cases q1:z6 s
 ·have hp:vz s l w wk=⟨(0,1),0,(0,1),0⟩:=by simp[vz,q1]
  rw[hp]
  simp only[go_sem,q1,Bool.not_false]
  refine zh (c40 _) ?_
  rintro _ h1 ⟨rfl,e2⟩
  subst e2
  simp only[go_sem]
  refine zh (c40 _) ?_
  rintro _ h1 ⟨rfl,e2⟩
  subst e2
  simp only[go_sem]
  refine zn ?_<;>(simp only[go_sem]<;>try rfl)
 have hp:vz s l w wk=WA s (XP s w l) (qA s (XP s w l) w).1 wk:=by simp[vz,q1]
 obtain⟨ev,hev⟩:∃ev,ev=XP s w l:=⟨_,rfl⟩
 obtain⟨I,hsg⟩:∃I,I=(qA s ev w).1:=⟨_,rfl⟩
 rw[<-hev, <-hsg] at hp
 have hevl:ev.length<262144:=by rw[hev];exact Nat.lt_of_le_of_lt X2a hl
 have hsgl:I.length<1048576:=by have:=WI (s:=s) (l:=ev) (w:=w);rw[hsg];omega
 have kk:∀M,SIn (h++M) s a:=λM=>k.app M
 simp only[go_sem,q1,Bool.not_true,(kk _).w.one,(kk _).e.one,(kk _).c.one,(kk _).g.one,(kk _).r.one,(kk _).t.one]
 refine zh (c41 _ s a (kk _) x l w (hx.app _) (by omega)) ?_
 rintro xe h1 ⟨L1,rfl,n1,ne⟩
 rw[<-hev] at ne
 simp only[go_sem,(kk _).w.one,(kk _).e.one,(kk _).c.one,(kk _).g.one,(kk _).r.one,(kk _).t.one]
 have he1:=ne _ rfl
 simp only[zr,List.cons_append,List.nil_append] at he1
 refine zh (c21 _ s a (kk _) f xe ev w he1 (by omega)) ?_
 rintro _ h1 ⟨L2,y1,z1,rfl,n2,rfl,ny,nz⟩
 rw[<-hsg] at ny
 simp only[go_sem]
 refine zh (c40 _) ?_
 rintro _ h1 ⟨rfl,e2⟩
 subst e2
 obtain⟨u,O⟩:∃u,u=h++ .box 30 (qg s a):: .box 24 [i64 0,i64 0]:: .box 24 [i64 0,i64 0]::(L1++L2):=⟨_,rfl⟩
 have hp5:Pre h u:=⟨_,O,zl rfl (zl rfl (zl rfl (n1.app n2)))⟩
 have b0:u[h.length]? =some (.box 30 (qg s a)):=by rw[O];exact zK rfl
 have b1:u[h.length+1]? =some (.box 24 [i64 0,i64 0]):=by rw[O];exact zG (k:=1) rfl
 have b2:u[h.length+2]? =some (.box 24 [i64 0,i64 0]):=by rw[O];exact zG (k:=2) rfl
 have k5:SIn u s a:=by rw[O];exact k.app _
 have he5:SlOf u xe 11 (ev.map evC):=by
  have:=he1.app L2
  rw[O]
  simpa only[zr,List.cons_append,List.nil_append] using this
 have hy5:SlOf u y1 5 (I.map ve):=by
  have:=ny _ rfl
  rw[O]
  simpa only[zr,List.cons_append,List.nil_append] using this
 have N:h.length+3<=u.length:=by rw[O];simp
 have hcat:h++ .box 30 (qg s a):: .box 24 [AV.v (Value.int IntKind.i64 0),AV.v (Value.int IntKind.i64 0)]:: .box 24 [AV.v (Value.int IntKind.i64 0),AV.v (Value.int IntKind.i64 0)]::(L1++(L2++[Ob.box 210 [i64 0,i64 1,AV.v (Value.int IntKind.i64 0)]]))=u++[Ob.box 210 (j9 ((0,1),0))]:=by rw[O];simp
 have hl5:h.length+(L1.length+L2.length+1+1+1)=u.length:=by rw[O];simp
 have hy51:=(hy5.app [Ob.box 210 (j9 ((0,1),0))]).rows
 rw[<-hcat] at hy51
 simp only[go_sem,hy51,zb]
 rw[hcat]
 obtain⟨gl,χ⟩:∃gl:List Seg->List qw,gl=λq=>(q.filter (jH wk)).map λg=>(xQ s (kY ev g)).1:=⟨_,rfl⟩
 obtain⟨al,hal⟩:∃al:List Seg->qw × Int,al=λq=>(q.filter (jH wk)).foldl (λz g=>jf z ((0,1),(xQ s (kY ev g)).2)) ((0,1),0):=⟨_,rfl⟩
 obtain⟨el,hel⟩:∃el:List Seg->Int,el=λq=>(q.filter (jH wk)).foldl (λn g=>wr (n+wr (g.to_ - g.from_))) 0:=⟨_,rfl⟩
 have gll:∀q,(gl q).length<=q.length:=λq=>by
  rw[χ]
  simp only[zb]
  exact qh _ _
 refine zO (by decide) (λm T h'=>∃j:Nat,j<=I.length/\Pre u h'/\h'[u.length]? =some (.box 210 (j9 (al (I.take j))))/\OwnS u h' 24 2 (T 16) ((gl (I.take j)).map jS)/\T 3=i64 wk/\T 4= .ptr h.length 0/\T 8= .ptr (h.length+1) 0/\T 9=i64 (el (I.take j))/\T 10= .ptr (h.length+2) 0/\T 12=xe/\T 15= .ptr u.length 0/\T 46=y1/\T 47=i64 I.length/\T 48=i64 j/\m=I.length - j) I.length
  ⟨0,by omega,Pre.refl.app (zD rfl),by rw[zK rfl,hal];rfl,.inl ⟨by simp only[go_sem],by rw[χ];rfl⟩,by simp only[go_sem],by simp only[go_sem],by simp only[go_sem],by(simp only[go_sem]<;>rw[hel]<;>rfl),by simp only[go_sem],by simp only[go_sem],by(simp only[go_sem]<;>rw[O]<;>simp),by simp only[go_sem],by simp only[go_sem],by(simp only[go_sem]<;>rfl),rfl⟩ ?_
 rintro m T h' ⟨j,hj,U,W,ho,t3,t4,t8,t9,t10,Y,b,t46,t47,θ,rfl⟩
 simp only[go_sem,t47,θ]
 refine ways (λe=>?_) (λe=>?_)
 ·have hlt:=dlt e
  have hy':=U.sl hy5
  have he':=U.sl he5
  have k':=U.sin k5
  have hee:=hy'.at (i:=j) (by simpa using hlt)
  have τ:(I.map ve)[j]? =some (ve I[j]):=by rw[zz,zi hlt];rfl
  have hkl:(j:Int)<I.length:=by omega
  have htk:=zE hlt
  have hmem:I[j]∈I:=zx hlt
  obtain⟨g,hg⟩:∃g,g=I[j]:=⟨_,rfl⟩
  rw[<-hg] at τ htk hmem
  have hA:List.length (ve g)=5:=rfl
  have skip:jH wk g=false->al (I.take (j+1))=al (I.take j)/\gl (I.take (j+1))=gl (I.take j)/\el (I.take (j+1))=el (I.take j):=λq=>by
   rw[<-htk,hal,χ,hel]
   simp[qo,q]
  cases q2:g.kind != 1
  ·cases q3:xS g.from_ != wk
   ·have hk1:g.kind=1:=by simpa using q2
    have hw1:xS g.from_=wk:=by simpa using q3
    have hyes:jH wk g=true:=by simp[jH,hk1,hw1]
    have step:al (I.take (j+1))=jf (al (I.take j)) ((0,1),(xQ s (kY ev g)).2)/\gl (I.take (j+1))=gl (I.take j)++[(xQ s (kY ev g)).1]/\el (I.take (j+1))=wr (el (I.take j)+wr (g.to_ - g.from_)):=by
     rw[<-htk,hal,χ,hel]
     simp[qo,hyes,qK]
    have hex:∃e∈ev,Za g.id e=true:=kKa (w:=w) q1 (by rw[<-hsg];exact hmem) hk1
    rcases J9 (Za g.id) ev with⟨_,hno⟩|⟨A,tk,R,hAR,hix,htk1,htk2⟩
    ·obtain⟨e,he,hi⟩:=hex
     rw[hno e he] at hi;cases hi
    have htask:=Wha hAR htk2 htk1
    have hAl:A.length<ev.length:=by rw[hAR];simp
    have ν:(ev.map evC)[A.length]? =some (evC tk):=xn (by rw[hAR];simp)
    have heeT:eOf h' xe=some 11:=he'.at (i:=A.length) (by simpa using hAl)
    have hklT:(A.length:Int)<(ev.length:Int):=by omega
    have hb53:∀M,(h'++(.box 146 (ve g)::M))[h'.length]? =some (.box 146 (ve g)):=λM=>by rw[zK rfl];rfl
    simp only[go_sem,t3,t46,θ,hee,hy'.rows,τ,hkl,zb,Int.toNat_natCast,zf,q2,q3,qv]
    refine zh (c17 g.from_ _) ?_
    rintro _ h4 ⟨rfl,e4⟩
    subst e4
    simp only[go_sem,t3,t9,Y,θ,q3]
    refine zh (c42 _ xe 125 [.ptr h'.length 0] (ev.map evC) (λr=>Za g.id (Wy r)) (by rw[zb];omega) (λr hr=>by obtain⟨p,_,rfl⟩:=zt.1 hr;rfl) (he'.app _) (λr hr M=>by
     obtain⟨p,_,rfl⟩:=zt.1 hr
     exact c43 _ h'.length p g (by rw[zr];exact hb53 _))) ?_
    rintro _ h4 ⟨rfl,e4⟩
    subst e4
    rw[hix]
    have hb30:∀M,(h'++M)[h.length]? =some (.box 30 (qg s a)):=λM=>by
     obtain⟨L,rfl,_⟩:=U
     rw[zr];exact ze b0
    have kM:∀M,SIn (h'++M) s a:=λM=>k'.app M
    have eT:∀M,eOf (h'++M) xe=some 11:=λM=>(he'.app M).at (i:=A.length) (by simpa using hAl)
    have rT:∀M,qc (h'++M) xe=some (ev.map evC):=λM=>(he'.app M).rows
    have oM:∀M,OwnS u (h'++M) 24 2 (T 16) ((gl (I.take j)).map jS):=λM=>ho.app M
    have bxM:∀M,(h'++M)[u.length]? =some (.box 210 (j9 (al (I.take j)))):=λM=>ze W
    obtain⟨gp,hgp⟩:∃gp,gp=xQ s tk:=⟨_,rfl⟩
    rw[htask, <-hgp] at step
    obtain⟨s1,s2,s3⟩:=step
    have hcap:((gl (I.take j)).length+1)*17<=140737488355328:=by
     have:=gll (I.take j)
     rw[zH] at this
     omega
    simp only[go_sem]
    refine zQ rfl [.res] 1 [(1,0,[]),(2,0,[]),(0,0,[]),(3,0,[]),(4,0,[]),(5,0,[]),(6,0,[]),(7,0,[]),(8,0,[]),(9,0,[]),(10,0,[]),(11,0,[])] rfl (by decide) (by decide) ?_
    simp only[go_sem,t4,Y,hb30,eT,rT,ν,hklT,zb,Int.toNat_natCast,zf,(kM _).w.one,(kM _).e.one,(kM _).c.one,(kM _).g.one,(kM _).r.one,(kM _).t.one]
    refine zh (c22 _ s a (kM _) f tk) ?_
    rintro _ h4 ⟨rfl,e4⟩
    subst e4
    rw[<-hgp]
    rcases ho with⟨φ,hnil⟩|⟨id,st,u1,φ,u3⟩
    ·simp only[go_sem,φ,t4,Y,hb30,eT,rT,ν,hklT,zb,Int.toNat_natCast,zf]
     refine zh (c40 _) ?_
     rintro _ h4 ⟨rfl,e4⟩
     subst e4
     simp only[go_sem,b]
     refine zh (qia _ u.length (al (I.take j)) ((0,1),gp.2) (bxM _)) ?_
     rintro _ h4 ⟨rfl,rfl⟩
     simp only[go_sem,θ]
     have hlt5:u.length<h'.length:=(zd.1 W).1
     refine⟨I.length - (j+1),by omega,j+1,by omega,(U.app (zl rfl (zl rfl (zl rfl (zD rfl))))).set (zp _) rfl,by rw[zm (bxM _),s1],.inr ⟨h'.length+3,0,by omega,rfl,?_⟩,t3,t4,t8,by rw[s3],t10,Y,b,t46,t47,qn (by omega) rfl,rfl⟩
     rw[zc (by omega),zG (k:=3) rfl,s2,zw,hnil]
     rfl
    ·have hgM:∀M,(h'++M)[id]? =some (.row 24 2 ((gl (I.take j)).map jS) st):=λM=>ze u3
     simp only[go_sem,φ,t4,Y,hgM,hcap,hb30,eT,rT,ν,hklT,zb,Int.toNat_natCast,zf]
     refine zh (c40 _) ?_
     rintro _ h4 ⟨rfl,e4⟩
     subst e4
     have hne:id≠u.length:=λq=>by rw[q,W] at u3;cases u3
     have bxS:∀M o,((h'++M).set id o)[u.length]? =some (.box 210 (j9 (al (I.take j)))):=λM o=>by rw[zc hne];exact bxM _
     simp only[go_sem,b]
     refine zh (qia _ u.length (al (I.take j)) ((0,1),gp.2) (bxS _ _)) ?_
     rintro _ h4 ⟨rfl,rfl⟩
     simp only[go_sem,θ]
     refine⟨I.length - (j+1),by omega,j+1,by omega,((U.app (zl rfl (zl rfl (zD rfl)))).set u1 rfl).set (zp _) rfl,by rw[zm (bxS _ _),s1],.inr ⟨id,st+1,u1,rfl,?_⟩,t3,t4,t8,by rw[s3],t10,Y,b,t46,t47,qn (by omega) rfl,rfl⟩
     rw[zc (Ne.symm hne),zm (hgM _),s2,zw]
     rfl
   ·simp only[go_sem,t3,t46,θ,hee,hy'.rows,τ,hkl,zb,Int.toNat_natCast,zf,q2,q3,qv]
    refine zh (c17 g.from_ _) ?_
    rintro _ h4 ⟨rfl,e4⟩
    subst e4
    simp only[go_sem,t3,θ,q3]
    have sk:jH wk g=false:=by
     unfold jH
     have:(xS g.from_==wk)=false:=by simpa using q3
     rw[this,Bool.and_false]
    exact⟨I.length - (j+1),by omega,j+1,by omega,U.app (zD rfl),by rw[(skip sk).1];exact ze W,by rw[(skip sk).2.1];exact ho.app _,t4,t8,by rw[(skip sk).2.2];exact t9,t10,Y,b,t46,t47,qn (by omega) rfl,rfl⟩
  ·simp only[go_sem,t46,θ,hee,hy'.rows,τ,hkl,zb,Int.toNat_natCast,zf,q2,qv]
   have sk:jH wk g=false:=by
    unfold jH
    have:(g.kind==1)=false:=by simpa using q2
    rw[this,Bool.false_and]
   exact⟨I.length - (j+1),by omega,j+1,by omega,U.app (zD rfl),by rw[(skip sk).1];exact ze W,by rw[(skip sk).2.1];exact ho.app _,t3,t4,t8,by rw[(skip sk).2.2];exact t9,t10,Y,b,t47,qn (by omega) rfl,rfl⟩
 ·have hge:=xr e
  have hj2:j=I.length:=by omega
  subst hj2
  rw[zV] at W ho t9
  obtain⟨z0,hz0⟩:∃z0,z0=al I:=⟨_,rfl⟩
  obtain⟨G,hG⟩:∃G,G=gl I:=⟨_,rfl⟩
  obtain⟨J,hn0⟩:∃J,J=el I:=⟨_,rfl⟩
  rw[<-hz0] at W
  rw[<-hG] at ho
  rw[<-hn0] at t9
  have hGf:∀p∈G,jq p:=λp hp=>by
   rw[hG,χ] at hp
   obtain⟨q,_,rfl⟩:=zt.1 hp
   exact Qua _ _
  have hGl:G.length<1099511627776:=by have:=gll I;rw[hG];omega
  have hGo:=ho.rows
  obtain⟨xg,hxg⟩:∃xg,xg=T 16:=⟨_,rfl⟩
  rw[<-hxg] at hGo ho
  have φ:T 16=xg:=hxg.symm
  have hlt5:u.length<h'.length:=(zd.1 W).1
  simp only[go_sem,φ]
  refine zh (c23 _ xg G hGf hGl hGo) ?_
  rintro _ h4 ⟨rfl,e4⟩
  subst e4
  simp only[go_sem,b]
  refine zh (qia _ u.length z0 (y8 G) W) ?_
  rintro _ h6 ⟨rfl,e6⟩
  obtain⟨z1,hz1⟩:∃z1,z1=jf z0 (y8 G):=⟨_,rfl⟩
  rw[<-hz1] at e6
  have p6:Pre u h6:=by rw[e6];exact U.set (zp _) rfl
  have l6:h6.length=h4.length:=by rw[e6];simp
  have a6:∀M,(h6++M)[u.length]? =some (.box 210 (j9 z1)):=λM=>ze (by rw[e6];exact zm W)
  have o6:OwnS u h6 24 2 xg (G.map jS):=by rw[e6];exact ho.set_box W _
  clear e6 W ho hGo
  simp only[go_sem]
  refine zQ rfl [.res] 1 [(1,0,[]),(2,0,[]),(0,0,[2]),(3,0,[]),(4,0,[]),(5,0,[])] rfl (by decide) (by decide) ?_
  simp only[go_sem,b,a6]
  refine zh (c40 _) ?_
  rintro _ h7 ⟨rfl,e7⟩
  subst e7
  simp only[go_sem,b,a6]
  obtain⟨h7,e7⟩:∃h7,h7=h6++[Ob.box 210 [i64 0,i64 1,i64 z1.2]]:=⟨_,rfl⟩
  have p7:Pre u h7:=by rw[e7];exact p6.app (zD rfl)
  have a7:h7[u.length]? =some (.box 210 (j9 z1)):=by rw[e7];exact a6 _
  have d7:h7[h6.length]? =some (.box 210 (j9 ((0,1),z1.2))):=by rw[e7];exact zK rfl
  have o7:OwnS u h7 24 2 xg (G.map jS):=by rw[e7];exact o6.app _
  have l76:u.length<h6.length:=by omega
  rw[<-e7]
  clear e7
  have b7:∀M,(h7++M)[h.length]? =some (.box 30 (qg s a)):=λM=>by
   obtain⟨L,rfl,_⟩:=p7
   rw[zr];exact ze b0
  have b70:h7[h.length]? =some (.box 30 (qg s a)):=by simpa using b7 []
  refine zQ rfl [] 0 [(0,0,[]),(2,0,[]),(3,0,[]),(1,0,[]),(4,0,[1]),(5,0,[]),(6,0,[]),(7,0,[]),(8,0,[]),(9,0,[])] rfl (by decide) (by decide) ?_
  simp only[go_sem,t4,Y,t3,b7,b70]
  refine zh (c45 _ xe ev wk (p7.sl he5) (by omega)) ?_
  rintro _ h8 ⟨rfl,e8⟩
  subst e8
  simp only[go_sem,t4,Y,t3,b7,b70]
  refine zh (c18 (wr (s.fault*(kp ev wk:Int))) 1 (wE _) (by simp[Fit]) _) ?_
  rintro _ h8 ⟨rfl,e8⟩
  subst e8
  obtain⟨mk,hmk⟩:∃mk,mk=make (wr (s.fault*(kp ev wk:Int))) 1:=⟨_,rfl⟩
  rw[<-hmk]
  simp only[go_sem,t4,Y,t3,b7,b70]
  refine zh (qia _ h6.length ((0,1),z1.2) mk d7) ?_
  rintro _ h8 ⟨rfl,e8⟩
  obtain⟨K,μ⟩:∃K,K=jf ((0,1),z1.2) mk:=⟨_,rfl⟩
  rw[<-μ] at e8
  have p8:Pre u h8:=by rw[e8];exact p7.set (by omega) rfl
  have a8:h8[u.length]? =some (.box 210 (j9 z1)):=by rw[e8,zc (by omega)];exact a7
  have d8:h8[h6.length]? =some (.box 210 (j9 K)):=by rw[e8];exact zm d7
  have o8:OwnS u h8 24 2 xg (G.map jS):=by rw[e8];exact o7.set_box d7 _
  clear e8 o7 a7 d7
  simp only[go_sem,d8,b]
  refine zh (qia _ u.length z1 K a8) ?_
  rintro _ h9 ⟨rfl,e9⟩
  obtain⟨z2,hz2⟩:∃z2,z2=jf z1 K:=⟨_,rfl⟩
  rw[<-hz2] at e9
  have p9:Pre u h9:=by rw[e9];exact p8.set (zp _) rfl
  have a90:h9[u.length]? =some (.box 210 (j9 z2)):=by rw[e9];exact zm a8
  have a9:∀M,(h9++M)[u.length]? =some (.box 210 (j9 z2)):=λM=>ze a90
  have d9:h9[h6.length]? =some (.box 210 (j9 K)):=by rw[e9,zc (by omega)];exact d8
  have o9:OwnS u h9 24 2 xg (G.map jS):=by rw[e9];exact o8.set_box a8 _
  clear e9 o8 a8 d8
  have hW:vz s l w wk=jsb z2 K G J:=by
   rw[hp,hz2,μ,hmk,hz1,hz0,hG,hn0,hal,χ,hel]
   rfl
  have hn0f:Fit J:=by rw[hn0,hel];exact X3a _ _ (by simp[Fit])
  rw[hW,Wia]
  clear hW
  have flost:jq K.1:=by rw[μ,hmk];unfold jf;split;exact Qw _ _;exact⟨by simp[Fit],by simp[Fit]⟩
  cases q5:z2.2==0
  ·have g2:¬ z2.2=0:=by simpa using q5
   rw[if_neg g2,if_neg (λq=>g2 q.1)]
   simp only[go_sem,b,a90,q5,qv]
   refine zQ rfl [.res] 1 [(1,0,[]),(2,0,[]),(0,0,[2]),(3,0,[]),(4,0,[]),(5,0,[])] rfl (by decide) (by decide) ?_
   simp only[go_sem,b,a9]
   refine zh (c40 _) ?_
   rintro _ σ ⟨rfl,X⟩
   rw[X]
   clear X σ
   simp only[go_sem,b,a9]
   obtain⟨Q,Z⟩:∃Q,Q=h9++[Ob.box 210 [i64 0,i64 1,i64 z2.2]]:=⟨_,rfl⟩
   have pD:Pre u Q:=by rw[Z];exact p9.app (zD rfl)
   have V:Q[u.length]? =some (.box 210 (j9 z2)):=by rw[Z];exact a9 _
   have S:Q[h9.length]? =some (.box 210 (j9 ((0,1),z2.2))):=by rw[Z];exact zK rfl
   have lD:u.length<h9.length:=(zd.1 a90).1
   rw[<-Z]
   clear Z
   by_cases g5:J>0/\z2.2=0
   ·exact absurd g5.2 g2
   ·obtain⟨y,P⟩:∃y:qw × Int,y=((0,1),z2.2):=⟨_,rfl⟩
    have hE:V3 z2 J=if y.2=0 then⟨z2.1,J,y.1,0⟩ else⟨(0,0),J,(0,0),y.2⟩:=by
     unfold V3
     simp only[if_neg g5]
     rw[P]
    rw[<-P] at S
    by_cases g7:J>0
    ·have d5:decide (J>0)=true:=by simpa using g7
     have e5:(z2.2==0)=false:=by
      have:¬ z2.2=0:=λq=>g5 ⟨g7,q⟩
      simpa using this
     simp only[go_sem,t9,d5,e5,qv,b,V]
     obtain⟨M,hM,nM⟩:=pD
     have d:Q=h++ .box 30 (qg s a):: .box 24 [i64 0,i64 0]:: .box 24 [i64 0,i64 0]::(L1++(L2++M)):=by rw[hM,O];simp
     have F:∀D C,(h++ .box 30 (qg s a)::D::C::(L1++(L2++M)))[u.length]? =some (.box 210 (j9 z2)):=λD C=>by rw[wO (p1:= .box 24 [i64 0,i64 0]) (p2:= .box 24 [i64 0,i64 0]) N, <-d];exact V
     have H:∀D C,(h++ .box 30 (qg s a)::D::C::(L1++(L2++M)))[h9.length]? =some (.box 210 (j9 y)):=λD C=>by rw[wO (p1:= .box 24 [i64 0,i64 0]) (p2:= .box 24 [i64 0,i64 0]) (by omega), <-d];exact S
     rw[d]
     rw[hE]
     clear V S d
     by_cases E:y.2=0
     ·have f6:(y.2 != 0)=false:=by simpa using E
      rw[if_pos E]
      simp only[go_sem,F,H,f6,t4,t8,t9,t10,b]
      refine zQ rfl [] 0 [(0,0,[]),(2,0,[]),(3,0,[]),(1,0,[]),(4,0,[]),(5,0,[4]),(6,0,[]),(7,0,[]),(8,0,[])] rfl (by decide) (by decide) ?_
      simp only[go_sem,F,H,t4,t8,t9,t10,b]
      refine zn ?_<;>(simp only[go_sem,t8,t10]<;>try rfl)
     ·have f6:(y.2 != 0)=true:=by simpa using E
      rw[if_neg E]
      simp only[go_sem,F,H,f6,t4,t8,t9,t10,b]
      refine zQ rfl [] 0 [(0,0,[]),(1,0,[]),(2,0,[]),(3,0,[]),(4,0,[]),(5,0,[4]),(6,0,[]),(7,0,[4]),(8,0,[])] rfl (by decide) (by decide) ?_
      simp only[go_sem,F,H,t4,t8,t9,t10,b]
      refine zn ?_<;>(simp only[go_sem,t8,t10]<;>try rfl)
    ·have d5:decide (J>0)=false:=by simpa using g7
     simp only[go_sem,t9,d5,qv,b]
     obtain⟨M,hM,nM⟩:=pD
     have d:Q=h++ .box 30 (qg s a):: .box 24 [i64 0,i64 0]:: .box 24 [i64 0,i64 0]::(L1++(L2++M)):=by rw[hM,O];simp
     have F:∀D C,(h++ .box 30 (qg s a)::D::C::(L1++(L2++M)))[u.length]? =some (.box 210 (j9 z2)):=λD C=>by rw[wO (p1:= .box 24 [i64 0,i64 0]) (p2:= .box 24 [i64 0,i64 0]) N, <-d];exact V
     have H:∀D C,(h++ .box 30 (qg s a)::D::C::(L1++(L2++M)))[h9.length]? =some (.box 210 (j9 y)):=λD C=>by rw[wO (p1:= .box 24 [i64 0,i64 0]) (p2:= .box 24 [i64 0,i64 0]) (by omega), <-d];exact S
     rw[d]
     rw[hE]
     clear V S d
     by_cases E:y.2=0
     ·have f6:(y.2 != 0)=false:=by simpa using E
      rw[if_pos E]
      simp only[go_sem,F,H,f6,t4,t8,t9,t10,b]
      refine zQ rfl [] 0 [(0,0,[]),(2,0,[]),(3,0,[]),(1,0,[]),(4,0,[]),(5,0,[4]),(6,0,[]),(7,0,[]),(8,0,[])] rfl (by decide) (by decide) ?_
      simp only[go_sem,F,H,t4,t8,t9,t10,b]
      refine zn ?_<;>(simp only[go_sem,t8,t10]<;>try rfl)
     ·have f6:(y.2 != 0)=true:=by simpa using E
      rw[if_neg E]
      simp only[go_sem,F,H,f6,t4,t8,t9,t10,b]
      refine zQ rfl [] 0 [(0,0,[]),(1,0,[]),(2,0,[]),(3,0,[]),(4,0,[]),(5,0,[4]),(6,0,[]),(7,0,[4]),(8,0,[])] rfl (by decide) (by decide) ?_
      simp only[go_sem,F,H,t4,t8,t9,t10,b]
      refine zn ?_<;>(simp only[go_sem,t8,t10]<;>try rfl)
  ·have g2:z2.2=0:=by simpa using q5
   rw[if_pos g2]
   simp only[go_sem,b,φ,a90,q5,qv]
   refine zh (c23 _ xg G hGf hGl o9.rows) ?_
   rintro _ h10 ⟨rfl,e10⟩
   rw[e10]
   clear e10 h10
   have d9M:∀M,(h9++M)[h6.length]? =some (.box 210 (j9 K)):=λM=>ze d9
   simp only[go_sem,d9,a9,d9M]
   refine zh (c19 (y8 G).1 K.1 (yPa G) flost _) ?_
   rintro _ h10 ⟨rfl,e10⟩
   rw[e10]
   clear e10 h10
   have hsub:Zl Vya (y8 G).1 K.1=ZV (y8 G).1 K.1:=rfl
   rw[hsub]
   simp only[go_sem,b]
   refine zh (qia _ u.length z2 (ZV (y8 G).1 K.1) (a9 _)) ?_
   rintro _ hC ⟨rfl,eC⟩
   obtain⟨z3,hz3⟩:∃z3,z3=jf z2 (ZV (y8 G).1 K.1):=⟨_,rfl⟩
   rw[<-hz3] at eC⊢
   have pC:Pre u hC:=by rw[eC];exact(p9.app (zD rfl)).set (zp _) rfl
   have ι:hC[u.length]? =some (.box 210 (j9 z3)):=by rw[eC];exact zm (a9 _)
   have aC:∀M,(hC++M)[u.length]? =some (.box 210 (j9 z3)):=λM=>ze ι
   have fz3:jq z3.1:=by rw[hz3];unfold jf;rw[if_pos g2];exact KY _ _ _
   clear eC
   cases q6:z3.2==0
   ·have g3:¬ z3.2=0:=by simpa using q6
    rw[if_neg (λq=>g3 q.1)]
    simp only[go_sem,b,ι,q6,qv]
    refine zQ rfl [.res] 1 [(1,0,[]),(2,0,[]),(0,0,[2]),(3,0,[]),(4,0,[]),(5,0,[])] rfl (by decide) (by decide) ?_
    simp only[go_sem,b,aC]
    refine zh (c40 _) ?_
    rintro _ σ ⟨rfl,X⟩
    rw[X]
    clear X σ
    simp only[go_sem,b,aC]
    obtain⟨Q,Z⟩:∃Q,Q=hC++[Ob.box 210 [i64 0,i64 1,i64 z3.2]]:=⟨_,rfl⟩
    have pD:Pre u Q:=by rw[Z];exact pC.app (zD rfl)
    have V:Q[u.length]? =some (.box 210 (j9 z3)):=by rw[Z];exact aC _
    have S:Q[hC.length]? =some (.box 210 (j9 ((0,1),z3.2))):=by rw[Z];exact zK rfl
    have lD:u.length<hC.length:=(zd.1 ι).1
    rw[<-Z]
    clear Z
    by_cases g5:J>0/\z3.2=0
    ·exact absurd g5.2 g3
    ·obtain⟨y,P⟩:∃y:qw × Int,y=((0,1),z3.2):=⟨_,rfl⟩
     have hE:V3 z3 J=if y.2=0 then⟨z3.1,J,y.1,0⟩ else⟨(0,0),J,(0,0),y.2⟩:=by
      unfold V3
      simp only[if_neg g5]
      rw[P]
     rw[<-P] at S
     by_cases g7:J>0
     ·have d5:decide (J>0)=true:=by simpa using g7
      have e5:(z3.2==0)=false:=by
       have:¬ z3.2=0:=λq=>g5 ⟨g7,q⟩
       simpa using this
      simp only[go_sem,t9,d5,e5,qv,b,V]
      obtain⟨M,hM,nM⟩:=pD
      have d:Q=h++ .box 30 (qg s a):: .box 24 [i64 0,i64 0]:: .box 24 [i64 0,i64 0]::(L1++(L2++M)):=by rw[hM,O];simp
      have F:∀D C,(h++ .box 30 (qg s a)::D::C::(L1++(L2++M)))[u.length]? =some (.box 210 (j9 z3)):=λD C=>by rw[wO (p1:= .box 24 [i64 0,i64 0]) (p2:= .box 24 [i64 0,i64 0]) N, <-d];exact V
      have H:∀D C,(h++ .box 30 (qg s a)::D::C::(L1++(L2++M)))[hC.length]? =some (.box 210 (j9 y)):=λD C=>by rw[wO (p1:= .box 24 [i64 0,i64 0]) (p2:= .box 24 [i64 0,i64 0]) (by omega), <-d];exact S
      rw[d]
      rw[hE]
      clear V S d
      by_cases E:y.2=0
      ·have f6:(y.2 != 0)=false:=by simpa using E
       rw[if_pos E]
       simp only[go_sem,F,H,f6,t4,t8,t9,t10,b]
       refine zQ rfl [] 0 [(0,0,[]),(2,0,[]),(3,0,[]),(1,0,[]),(4,0,[]),(5,0,[4]),(6,0,[]),(7,0,[]),(8,0,[])] rfl (by decide) (by decide) ?_
       simp only[go_sem,F,H,t4,t8,t9,t10,b]
       refine zn ?_<;>(simp only[go_sem,t8,t10]<;>try rfl)
      ·have f6:(y.2 != 0)=true:=by simpa using E
       rw[if_neg E]
       simp only[go_sem,F,H,f6,t4,t8,t9,t10,b]
       refine zQ rfl [] 0 [(0,0,[]),(1,0,[]),(2,0,[]),(3,0,[]),(4,0,[]),(5,0,[4]),(6,0,[]),(7,0,[4]),(8,0,[])] rfl (by decide) (by decide) ?_
       simp only[go_sem,F,H,t4,t8,t9,t10,b]
       refine zn ?_<;>(simp only[go_sem,t8,t10]<;>try rfl)
     ·have d5:decide (J>0)=false:=by simpa using g7
      simp only[go_sem,t9,d5,qv,b]
      obtain⟨M,hM,nM⟩:=pD
      have d:Q=h++ .box 30 (qg s a):: .box 24 [i64 0,i64 0]:: .box 24 [i64 0,i64 0]::(L1++(L2++M)):=by rw[hM,O];simp
      have F:∀D C,(h++ .box 30 (qg s a)::D::C::(L1++(L2++M)))[u.length]? =some (.box 210 (j9 z3)):=λD C=>by rw[wO (p1:= .box 24 [i64 0,i64 0]) (p2:= .box 24 [i64 0,i64 0]) N, <-d];exact V
      have H:∀D C,(h++ .box 30 (qg s a)::D::C::(L1++(L2++M)))[hC.length]? =some (.box 210 (j9 y)):=λD C=>by rw[wO (p1:= .box 24 [i64 0,i64 0]) (p2:= .box 24 [i64 0,i64 0]) (by omega), <-d];exact S
      rw[d]
      rw[hE]
      clear V S d
      by_cases E:y.2=0
      ·have f6:(y.2 != 0)=false:=by simpa using E
       rw[if_pos E]
       simp only[go_sem,F,H,f6,t4,t8,t9,t10,b]
       refine zQ rfl [] 0 [(0,0,[]),(2,0,[]),(3,0,[]),(1,0,[]),(4,0,[]),(5,0,[4]),(6,0,[]),(7,0,[]),(8,0,[])] rfl (by decide) (by decide) ?_
       simp only[go_sem,F,H,t4,t8,t9,t10,b]
       refine zn ?_<;>(simp only[go_sem,t8,t10]<;>try rfl)
      ·have f6:(y.2 != 0)=true:=by simpa using E
       rw[if_neg E]
       simp only[go_sem,F,H,f6,t4,t8,t9,t10,b]
       refine zQ rfl [] 0 [(0,0,[]),(1,0,[]),(2,0,[]),(3,0,[]),(4,0,[]),(5,0,[4]),(6,0,[]),(7,0,[4]),(8,0,[])] rfl (by decide) (by decide) ?_
       simp only[go_sem,F,H,t4,t8,t9,t10,b]
       refine zn ?_<;>(simp only[go_sem,t8,t10]<;>try rfl)
   ·have g3:z3.2=0:=by simpa using q6
    cases q7:decide (z3.1.1<0)
    ·have g4:¬ z3.1.1<0:=by simpa using q7
     rw[if_neg (λq=>g4 q.2)]
     simp only[go_sem,b,ι,q6,q7,qv]
     refine zQ rfl [.res] 1 [(1,0,[]),(2,0,[]),(0,0,[2]),(3,0,[]),(4,0,[]),(5,0,[])] rfl (by decide) (by decide) ?_
     simp only[go_sem,b,aC]
     refine zh (c40 _) ?_
     rintro _ σ ⟨rfl,X⟩
     rw[X]
     clear X σ
     simp only[go_sem,b,aC]
     obtain⟨Q,Z⟩:∃Q,Q=hC++[Ob.box 210 [i64 0,i64 1,i64 z3.2]]:=⟨_,rfl⟩
     have pD:Pre u Q:=by rw[Z];exact pC.app (zD rfl)
     have V:Q[u.length]? =some (.box 210 (j9 z3)):=by rw[Z];exact aC _
     have S:Q[hC.length]? =some (.box 210 (j9 ((0,1),z3.2))):=by rw[Z];exact zK rfl
     have lD:u.length<hC.length:=(zd.1 ι).1
     rw[<-Z]
     clear Z
     by_cases g5:J>0/\z3.2=0
     ·have d5:decide (J>0)=true:=by simpa using g5.1
      have e5:(z3.2==0)=true:=by simpa using g5.2
      simp only[go_sem,t9,d5,e5,qv,b,V,S]
      refine zh (c18 J 1 hn0f (by simp[Fit]) _) ?_
      rintro _ h21 ⟨rfl,e21⟩
      rw[e21]
      clear e21 h21
      obtain⟨mn,ρ⟩:∃mn,mn=make J 1:=⟨_,rfl⟩
      rw[<-ρ]
      have fmn:jq mn.1:=by rw[ρ];exact Qw _ _
      simp only[go_sem]
      refine zh (qia _ hC.length ((0,1),z3.2) mn (ze S)) ?_
      rintro _ γ ⟨rfl,eE⟩
      obtain⟨dm,hdm⟩:∃dm,dm=jf ((0,1),z3.2) mn:=⟨_,rfl⟩
      rw[<-hdm] at eE
      have pE:Pre u γ:=by rw[eE];exact(pD.app (zD rfl)).set (by omega) rfl
      have aE:γ[u.length]? =some (.box 210 (j9 z3)):=by rw[eE,zc (by omega)];exact ze V
      have bE:γ[Q.length]? =some (.box 24 [i64 mn.1.1,i64 mn.1.2]):=by
       have:=(zd.1 S).1
       rw[eE,zc (by omega)];exact zK rfl
      have dE:γ[hC.length]? =some (.box 210 (j9 dm)):=by rw[eE];exact zm (ze S)
      clear eE V S
      simp only[go_sem,b,aE,bE]
      refine zh (c46 z3.1 mn.1 fz3 fmn _) ?_
      rintro _ h22 ⟨rfl,e22⟩
      rw[e22]
      clear e22 h22
      obtain⟨dv,hdv⟩:∃dv,dv=VW z3.1 mn.1:=⟨_,rfl⟩
      have hdv2:Zl Xda z3.1 mn.1=dv:=hdv.symm
      rw[hdv2]
      simp only[go_sem]
      refine zh (qia _ hC.length dm dv dE) ?_
      rintro _ hG ⟨rfl,eG⟩
      obtain⟨y,P⟩:∃y,y=jf dm dv:=⟨_,rfl⟩
      rw[<-P] at eG
      have pG:Pre u hG:=by rw[eG];exact pE.set (by omega) rfl
      have aG:hG[u.length]? =some (.box 210 (j9 z3)):=by rw[eG,zc (by omega)];exact aE
      have dG:hG[hC.length]? =some (.box 210 (j9 y)):=by rw[eG];exact zm dE
      clear eG aE bE dE
      have hE:V3 z3 J=if y.2=0 then⟨z3.1,J,y.1,0⟩ else⟨(0,0),J,(0,0),y.2⟩:=by
       unfold V3
       simp only[if_pos g5]
       rw[<-ρ, <-hdm, <-hdv, <-P]
      obtain⟨M,hM,nM⟩:=pG
      have d:hG=h++ .box 30 (qg s a):: .box 24 [i64 0,i64 0]:: .box 24 [i64 0,i64 0]::(L1++(L2++M)):=by rw[hM,O];simp
      have F:∀D C,(h++ .box 30 (qg s a)::D::C::(L1++(L2++M)))[u.length]? =some (.box 210 (j9 z3)):=λD C=>by rw[wO (p1:= .box 24 [i64 0,i64 0]) (p2:= .box 24 [i64 0,i64 0]) N, <-d];exact aG
      have H:∀D C,(h++ .box 30 (qg s a)::D::C::(L1++(L2++M)))[hC.length]? =some (.box 210 (j9 y)):=λD C=>by rw[wO (p1:= .box 24 [i64 0,i64 0]) (p2:= .box 24 [i64 0,i64 0]) (by omega), <-d];exact dG
      rw[d]
      rw[hE]
      clear aG dG d
      by_cases E:y.2=0
      ·have f6:(y.2 != 0)=false:=by simpa using E
       rw[if_pos E]
       simp only[go_sem,F,H,f6,t4,t8,t9,t10,b]
       refine zQ rfl [] 0 [(0,0,[]),(2,0,[]),(3,0,[]),(1,0,[]),(4,0,[]),(5,0,[4]),(6,0,[]),(7,0,[]),(8,0,[])] rfl (by decide) (by decide) ?_
       simp only[go_sem,F,H,t4,t8,t9,t10,b]
       refine zn ?_<;>(simp only[go_sem,t8,t10]<;>try rfl)
      ·have f6:(y.2 != 0)=true:=by simpa using E
       rw[if_neg E]
       simp only[go_sem,F,H,f6,t4,t8,t9,t10,b]
       refine zQ rfl [] 0 [(0,0,[]),(1,0,[]),(2,0,[]),(3,0,[]),(4,0,[]),(5,0,[4]),(6,0,[]),(7,0,[4]),(8,0,[])] rfl (by decide) (by decide) ?_
       simp only[go_sem,F,H,t4,t8,t9,t10,b]
       refine zn ?_<;>(simp only[go_sem,t8,t10]<;>try rfl)
     ·obtain⟨y,P⟩:∃y:qw × Int,y=((0,1),z3.2):=⟨_,rfl⟩
      have hE:V3 z3 J=if y.2=0 then⟨z3.1,J,y.1,0⟩ else⟨(0,0),J,(0,0),y.2⟩:=by
       unfold V3
       simp only[if_neg g5]
       rw[P]
      rw[<-P] at S
      by_cases g7:J>0
      ·have d5:decide (J>0)=true:=by simpa using g7
       have e5:(z3.2==0)=false:=by
        have:¬ z3.2=0:=λq=>g5 ⟨g7,q⟩
        simpa using this
       simp only[go_sem,t9,d5,e5,qv,b,V]
       obtain⟨M,hM,nM⟩:=pD
       have d:Q=h++ .box 30 (qg s a):: .box 24 [i64 0,i64 0]:: .box 24 [i64 0,i64 0]::(L1++(L2++M)):=by rw[hM,O];simp
       have F:∀D C,(h++ .box 30 (qg s a)::D::C::(L1++(L2++M)))[u.length]? =some (.box 210 (j9 z3)):=λD C=>by rw[wO (p1:= .box 24 [i64 0,i64 0]) (p2:= .box 24 [i64 0,i64 0]) N, <-d];exact V
       have H:∀D C,(h++ .box 30 (qg s a)::D::C::(L1++(L2++M)))[hC.length]? =some (.box 210 (j9 y)):=λD C=>by rw[wO (p1:= .box 24 [i64 0,i64 0]) (p2:= .box 24 [i64 0,i64 0]) (by omega), <-d];exact S
       rw[d]
       rw[hE]
       clear V S d
       by_cases E:y.2=0
       ·have f6:(y.2 != 0)=false:=by simpa using E
        rw[if_pos E]
        simp only[go_sem,F,H,f6,t4,t8,t9,t10,b]
        refine zQ rfl [] 0 [(0,0,[]),(2,0,[]),(3,0,[]),(1,0,[]),(4,0,[]),(5,0,[4]),(6,0,[]),(7,0,[]),(8,0,[])] rfl (by decide) (by decide) ?_
        simp only[go_sem,F,H,t4,t8,t9,t10,b]
        refine zn ?_<;>(simp only[go_sem,t8,t10]<;>try rfl)
       ·have f6:(y.2 != 0)=true:=by simpa using E
        rw[if_neg E]
        simp only[go_sem,F,H,f6,t4,t8,t9,t10,b]
        refine zQ rfl [] 0 [(0,0,[]),(1,0,[]),(2,0,[]),(3,0,[]),(4,0,[]),(5,0,[4]),(6,0,[]),(7,0,[4]),(8,0,[])] rfl (by decide) (by decide) ?_
        simp only[go_sem,F,H,t4,t8,t9,t10,b]
        refine zn ?_<;>(simp only[go_sem,t8,t10]<;>try rfl)
      ·have d5:decide (J>0)=false:=by simpa using g7
       simp only[go_sem,t9,d5,qv,b]
       obtain⟨M,hM,nM⟩:=pD
       have d:Q=h++ .box 30 (qg s a):: .box 24 [i64 0,i64 0]:: .box 24 [i64 0,i64 0]::(L1++(L2++M)):=by rw[hM,O];simp
       have F:∀D C,(h++ .box 30 (qg s a)::D::C::(L1++(L2++M)))[u.length]? =some (.box 210 (j9 z3)):=λD C=>by rw[wO (p1:= .box 24 [i64 0,i64 0]) (p2:= .box 24 [i64 0,i64 0]) N, <-d];exact V
       have H:∀D C,(h++ .box 30 (qg s a)::D::C::(L1++(L2++M)))[hC.length]? =some (.box 210 (j9 y)):=λD C=>by rw[wO (p1:= .box 24 [i64 0,i64 0]) (p2:= .box 24 [i64 0,i64 0]) (by omega), <-d];exact S
       rw[d]
       rw[hE]
       clear V S d
       by_cases E:y.2=0
       ·have f6:(y.2 != 0)=false:=by simpa using E
        rw[if_pos E]
        simp only[go_sem,F,H,f6,t4,t8,t9,t10,b]
        refine zQ rfl [] 0 [(0,0,[]),(2,0,[]),(3,0,[]),(1,0,[]),(4,0,[]),(5,0,[4]),(6,0,[]),(7,0,[]),(8,0,[])] rfl (by decide) (by decide) ?_
        simp only[go_sem,F,H,t4,t8,t9,t10,b]
        refine zn ?_<;>(simp only[go_sem,t8,t10]<;>try rfl)
       ·have f6:(y.2 != 0)=true:=by simpa using E
        rw[if_neg E]
        simp only[go_sem,F,H,f6,t4,t8,t9,t10,b]
        refine zQ rfl [] 0 [(0,0,[]),(1,0,[]),(2,0,[]),(3,0,[]),(4,0,[]),(5,0,[4]),(6,0,[]),(7,0,[4]),(8,0,[])] rfl (by decide) (by decide) ?_
        simp only[go_sem,F,H,t4,t8,t9,t10,b]
        refine zn ?_<;>(simp only[go_sem,t8,t10]<;>try rfl)
    ·have g4:z3.1.1<0:=by simpa using q7
     rw[if_pos ⟨g3,g4⟩]
     simp only[go_sem,b,ι,q6,q7,qv]
     refine zh (c40 _) ?_
     rintro _ h12 ⟨rfl,e12⟩
     rw[e12]
     clear e12 h12
     simp only[go_sem,b,ι]
     obtain⟨z4,hz4⟩:∃z4:qw × Int,z4=((0,1),z3.2):=⟨_,rfl⟩
     obtain⟨hK,eK⟩:∃hK,hK=hC.set u.length (.box 210 [i64 0,i64 1,i64 z3.2]):=⟨_,rfl⟩
     have pK:Pre u hK:=by rw[eK];exact pC.set (zp _) rfl
     have aK0:hK[u.length]? =some (.box 210 (j9 z4)):=by rw[eK,zm ι,hz4]
     have aK:∀M,(hK++M)[u.length]? =some (.box 210 (j9 z4)):=λM=>ze aK0
     have fz4:jq z4.1:=by rw[hz4];exact⟨by simp[Fit],by simp[Fit]⟩
     rw[<-eK, <-hz4]
     clear eK
     refine zQ rfl [.res] 1 [(1,0,[]),(2,0,[]),(0,0,[2]),(3,0,[]),(4,0,[]),(5,0,[])] rfl (by decide) (by decide) ?_
     simp only[go_sem,b,aK]
     refine zh (c40 _) ?_
     rintro _ σ ⟨rfl,X⟩
     rw[X]
     clear X σ
     simp only[go_sem,b,aK]
     obtain⟨Q,Z⟩:∃Q,Q=hK++[Ob.box 210 [i64 0,i64 1,i64 z4.2]]:=⟨_,rfl⟩
     have pD:Pre u Q:=by rw[Z];exact pK.app (zD rfl)
     have V:Q[u.length]? =some (.box 210 (j9 z4)):=by rw[Z];exact aK _
     have S:Q[hK.length]? =some (.box 210 (j9 ((0,1),z4.2))):=by rw[Z];exact zK rfl
     have lD:u.length<hK.length:=(zd.1 aK0).1
     rw[<-Z]
     clear Z
     by_cases g5:J>0/\z4.2=0
     ·have d5:decide (J>0)=true:=by simpa using g5.1
      have e5:(z4.2==0)=true:=by simpa using g5.2
      simp only[go_sem,t9,d5,e5,qv,b,V,S]
      refine zh (c18 J 1 hn0f (by simp[Fit]) _) ?_
      rintro _ h21 ⟨rfl,e21⟩
      rw[e21]
      clear e21 h21
      obtain⟨mn,ρ⟩:∃mn,mn=make J 1:=⟨_,rfl⟩
      rw[<-ρ]
      have fmn:jq mn.1:=by rw[ρ];exact Qw _ _
      simp only[go_sem]
      refine zh (qia _ hK.length ((0,1),z4.2) mn (ze S)) ?_
      rintro _ γ ⟨rfl,eE⟩
      obtain⟨dm,hdm⟩:∃dm,dm=jf ((0,1),z4.2) mn:=⟨_,rfl⟩
      rw[<-hdm] at eE
      have pE:Pre u γ:=by rw[eE];exact(pD.app (zD rfl)).set (by omega) rfl
      have aE:γ[u.length]? =some (.box 210 (j9 z4)):=by rw[eE,zc (by omega)];exact ze V
      have bE:γ[Q.length]? =some (.box 24 [i64 mn.1.1,i64 mn.1.2]):=by
       have:=(zd.1 S).1
       rw[eE,zc (by omega)];exact zK rfl
      have dE:γ[hK.length]? =some (.box 210 (j9 dm)):=by rw[eE];exact zm (ze S)
      clear eE V S
      simp only[go_sem,b,aE,bE]
      refine zh (c46 z4.1 mn.1 fz4 fmn _) ?_
      rintro _ h22 ⟨rfl,e22⟩
      rw[e22]
      clear e22 h22
      obtain⟨dv,hdv⟩:∃dv,dv=VW z4.1 mn.1:=⟨_,rfl⟩
      have hdv2:Zl Xda z4.1 mn.1=dv:=hdv.symm
      rw[hdv2]
      simp only[go_sem]
      refine zh (qia _ hK.length dm dv dE) ?_
      rintro _ hG ⟨rfl,eG⟩
      obtain⟨y,P⟩:∃y,y=jf dm dv:=⟨_,rfl⟩
      rw[<-P] at eG
      have pG:Pre u hG:=by rw[eG];exact pE.set (by omega) rfl
      have aG:hG[u.length]? =some (.box 210 (j9 z4)):=by rw[eG,zc (by omega)];exact aE
      have dG:hG[hK.length]? =some (.box 210 (j9 y)):=by rw[eG];exact zm dE
      clear eG aE bE dE
      have hE:V3 z4 J=if y.2=0 then⟨z4.1,J,y.1,0⟩ else⟨(0,0),J,(0,0),y.2⟩:=by
       unfold V3
       simp only[if_pos g5]
       rw[<-ρ, <-hdm, <-hdv, <-P]
      obtain⟨M,hM,nM⟩:=pG
      have d:hG=h++ .box 30 (qg s a):: .box 24 [i64 0,i64 0]:: .box 24 [i64 0,i64 0]::(L1++(L2++M)):=by rw[hM,O];simp
      have F:∀D C,(h++ .box 30 (qg s a)::D::C::(L1++(L2++M)))[u.length]? =some (.box 210 (j9 z4)):=λD C=>by rw[wO (p1:= .box 24 [i64 0,i64 0]) (p2:= .box 24 [i64 0,i64 0]) N, <-d];exact aG
      have H:∀D C,(h++ .box 30 (qg s a)::D::C::(L1++(L2++M)))[hK.length]? =some (.box 210 (j9 y)):=λD C=>by rw[wO (p1:= .box 24 [i64 0,i64 0]) (p2:= .box 24 [i64 0,i64 0]) (by omega), <-d];exact dG
      rw[d]
      rw[hE]
      clear aG dG d
      by_cases E:y.2=0
      ·have f6:(y.2 != 0)=false:=by simpa using E
       rw[if_pos E]
       simp only[go_sem,F,H,f6,t4,t8,t9,t10,b]
       refine zQ rfl [] 0 [(0,0,[]),(2,0,[]),(3,0,[]),(1,0,[]),(4,0,[]),(5,0,[4]),(6,0,[]),(7,0,[]),(8,0,[])] rfl (by decide) (by decide) ?_
       simp only[go_sem,F,H,t4,t8,t9,t10,b]
       refine zn ?_<;>(simp only[go_sem,t8,t10]<;>try rfl)
      ·have f6:(y.2 != 0)=true:=by simpa using E
       rw[if_neg E]
       simp only[go_sem,F,H,f6,t4,t8,t9,t10,b]
       refine zQ rfl [] 0 [(0,0,[]),(1,0,[]),(2,0,[]),(3,0,[]),(4,0,[]),(5,0,[4]),(6,0,[]),(7,0,[4]),(8,0,[])] rfl (by decide) (by decide) ?_
       simp only[go_sem,F,H,t4,t8,t9,t10,b]
       refine zn ?_<;>(simp only[go_sem,t8,t10]<;>try rfl)
     ·obtain⟨y,P⟩:∃y:qw × Int,y=((0,1),z4.2):=⟨_,rfl⟩
      have hE:V3 z4 J=if y.2=0 then⟨z4.1,J,y.1,0⟩ else⟨(0,0),J,(0,0),y.2⟩:=by
       unfold V3
       simp only[if_neg g5]
       rw[P]
      rw[<-P] at S
      by_cases g7:J>0
      ·have d5:decide (J>0)=true:=by simpa using g7
       have e5:(z4.2==0)=false:=by
        have:¬ z4.2=0:=λq=>g5 ⟨g7,q⟩
        simpa using this
       simp only[go_sem,t9,d5,e5,qv,b,V]
       obtain⟨M,hM,nM⟩:=pD
       have d:Q=h++ .box 30 (qg s a):: .box 24 [i64 0,i64 0]:: .box 24 [i64 0,i64 0]::(L1++(L2++M)):=by rw[hM,O];simp
       have F:∀D C,(h++ .box 30 (qg s a)::D::C::(L1++(L2++M)))[u.length]? =some (.box 210 (j9 z4)):=λD C=>by rw[wO (p1:= .box 24 [i64 0,i64 0]) (p2:= .box 24 [i64 0,i64 0]) N, <-d];exact V
       have H:∀D C,(h++ .box 30 (qg s a)::D::C::(L1++(L2++M)))[hK.length]? =some (.box 210 (j9 y)):=λD C=>by rw[wO (p1:= .box 24 [i64 0,i64 0]) (p2:= .box 24 [i64 0,i64 0]) (by omega), <-d];exact S
       rw[d]
       rw[hE]
       clear V S d
       by_cases E:y.2=0
       ·have f6:(y.2 != 0)=false:=by simpa using E
        rw[if_pos E]
        simp only[go_sem,F,H,f6,t4,t8,t9,t10,b]
        refine zQ rfl [] 0 [(0,0,[]),(2,0,[]),(3,0,[]),(1,0,[]),(4,0,[]),(5,0,[4]),(6,0,[]),(7,0,[]),(8,0,[])] rfl (by decide) (by decide) ?_
        simp only[go_sem,F,H,t4,t8,t9,t10,b]
        refine zn ?_<;>(simp only[go_sem,t8,t10]<;>try rfl)
       ·have f6:(y.2 != 0)=true:=by simpa using E
        rw[if_neg E]
        simp only[go_sem,F,H,f6,t4,t8,t9,t10,b]
        refine zQ rfl [] 0 [(0,0,[]),(1,0,[]),(2,0,[]),(3,0,[]),(4,0,[]),(5,0,[4]),(6,0,[]),(7,0,[4]),(8,0,[])] rfl (by decide) (by decide) ?_
        simp only[go_sem,F,H,t4,t8,t9,t10,b]
        refine zn ?_<;>(simp only[go_sem,t8,t10]<;>try rfl)
      ·have d5:decide (J>0)=false:=by simpa using g7
       simp only[go_sem,t9,d5,qv,b]
       obtain⟨M,hM,nM⟩:=pD
       have d:Q=h++ .box 30 (qg s a):: .box 24 [i64 0,i64 0]:: .box 24 [i64 0,i64 0]::(L1++(L2++M)):=by rw[hM,O];simp
       have F:∀D C,(h++ .box 30 (qg s a)::D::C::(L1++(L2++M)))[u.length]? =some (.box 210 (j9 z4)):=λD C=>by rw[wO (p1:= .box 24 [i64 0,i64 0]) (p2:= .box 24 [i64 0,i64 0]) N, <-d];exact V
       have H:∀D C,(h++ .box 30 (qg s a)::D::C::(L1++(L2++M)))[hK.length]? =some (.box 210 (j9 y)):=λD C=>by rw[wO (p1:= .box 24 [i64 0,i64 0]) (p2:= .box 24 [i64 0,i64 0]) (by omega), <-d];exact S
       rw[d]
       rw[hE]
       clear V S d
       by_cases E:y.2=0
       ·have f6:(y.2 != 0)=false:=by simpa using E
        rw[if_pos E]
        simp only[go_sem,F,H,f6,t4,t8,t9,t10,b]
        refine zQ rfl [] 0 [(0,0,[]),(2,0,[]),(3,0,[]),(1,0,[]),(4,0,[]),(5,0,[4]),(6,0,[]),(7,0,[]),(8,0,[])] rfl (by decide) (by decide) ?_
        simp only[go_sem,F,H,t4,t8,t9,t10,b]
        refine zn ?_<;>(simp only[go_sem,t8,t10]<;>try rfl)
       ·have f6:(y.2 != 0)=true:=by simpa using E
        rw[if_neg E]
        simp only[go_sem,F,H,f6,t4,t8,t9,t10,b]
        refine zQ rfl [] 0 [(0,0,[]),(1,0,[]),(2,0,[]),(3,0,[]),(4,0,[]),(5,0,[4]),(6,0,[]),(7,0,[4]),(8,0,[])] rfl (by decide) (by decide) ?_
        simp only[go_sem,F,H,t4,t8,t9,t10,b]
        refine zn ?_<;>(simp only[go_sem,t8,t10]<;>try rfl)
