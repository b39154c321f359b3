import Derived.Test.YtigdlmpjijhpaaaGreatKA
import Derived.Test.YtigdlmpjijhpaaaGreatK29
set_option linter.all false
namespace Go.Proofs.YtigdlmpjijhpaaaGreat.Ax
open Go Go.Proofs
set_option maxRecDepth 100000
abbrev jIb(v:PerfV):AV:= .tup [rat v.earned,i64 v.eligible,rat v.perf,i64 v.err]
abbrev xf(z:qx × Int):List AV:=[i64 z.1.1,i64 z.1.2,i64 z.2]
theorem Wta(z v:qx × Int):(if z.2=0 then [i64 v.1.1,i64 v.1.2,i64 v.2] else [i64 z.1.1,i64 z.1.2,i64 z.2])=xf (jg z v):=by
 unfold jg
 split<;>rfl
theorem qla(h:List Ob)(j:Nat)(z v:qx × Int)(b:h[j]? =some (.box 210 (xf z))):
  ACalls Tryz.prog 127 [.ptr j 0,rat v.1,i64 v.2] h λr h'=>r= .tup []/\h'=h.set j (.box 210 (xf (jg z v))):=
 (c44 h j z.1.1 z.1.2 z.2 v.1 v.2 b).mono λr h' ⟨a,c⟩=>⟨a,by rw[c,Wta]⟩
theorem Wua{l:List Ev}{g:Seg}{A R:List Ev}{x:Ev}(d:l=A++x::R)(c:∀e∈A,Zc g.id e=false)(a:Zc g.id x=true):vd l g=x:=by
 unfold vd
 rw[d,List.find?_append,List.find?_eq_none.2 (λe b=>by rw[c e b];simp)]
 simp[a]
theorem kNa{s:Setup}{l:List Ev}{w:Int}(c:z6 s=true){g:Seg}(f:g∈(qA s l w).1)(d:g.kind=1):∃e∈l,Zc g.id e=true:=by
 obtain⟨e,⟨h,i,j⟩,b⟩:=(yW (l:=l) (w:=w) c).2 g f
 refine⟨e,h,?_⟩
 have a:e.kind=3:=by
  have:=b.2.1
  rw[d] at this
  unfold J1 at this
  split at this
  ·assumption
  ·split at this
   ·cases this
   ·split at this<;>cases this
 simp[Zc,a,b.1]
theorem Kca{s:Setup}{w:Int}{l:List Ev}:(XQ s w l).length<=l.length:=by
 have:=qw (λe=> !Qn s w e) (qv l)
 rw[xl] at this
 exact this
theorem Xg{s:Setup}{l:List Ev}{w:Int}:(qA s l w).1.length<=3*l.length+1:=by
 have c:=xl l
 have b:szT (goP s w (qv l))<=szT ⟨none,[],[]⟩+3*(qv l).length:=wea (qv l)
 have a:szT ⟨none,[],[]⟩=0:=rfl
 have d:=K9 (s:=s) (t:=goP s w (qv l)) (at_:=32054400)
 unfold qA
 split
 ·simp only[szT] at d b a⊢
  omega
 ·simp
theorem QBa(s:Setup)(e:Ev):jq (xS s e).1:=by
 have d:∀c,jq (ZN s e c).1:=λc=>by
  unfold ZN
  simp only
  exact zCa (f:=JG) (λa b=>KZ jRa a b) _ _ _
 unfold xS
 split
 ·split
  ·exact QK
  ·split
   ·exact d _
   ·exact QK
 ·exact QK
def jJb(c e:qx × Int)(G:List qx)(d:Int):PerfV:=
 let b:=if c.2=0 then jg c (ZW (Za G).1 e.1) else c
 let a:=if b.2=0/\b.1.1<0 then((0,1),b.2) else b
 let done:=if d>0/\a.2=0 then jg (jg ((0,1),a.2) (make d 1)) (VY a.1 (make d 1).1) else((0,1),a.2)
 if done.2=0 then⟨a.1,d,done.1,0⟩ else⟨(0,0),d,(0,0),done.2⟩
def V5(a:qx × Int)(b:Int):PerfV:=
 if(if b>0/\a.2=0 then jg (jg ((0,1),a.2) (make b 1)) (VY a.1 (make b 1).1) else((0,1),a.2)).2=0
 then⟨a.1,b,(if b>0/\a.2=0 then jg (jg ((0,1),a.2) (make b 1)) (VY a.1 (make b 1).1) else((0,1),a.2)).1,0⟩
 else⟨(0,0),b,(0,0),(if b>0/\a.2=0 then jg (jg ((0,1),a.2) (make b 1)) (VY a.1 (make b 1).1) else((0,1),a.2)).2⟩
theorem Wva(a b:qx × Int)(G:List qx)(c:Int):jJb a b G c=V5 (if(if a.2=0 then jg a (ZW (Za G).1 b.1) else a).2=0/\(if a.2=0 then jg a (ZW (Za G).1 b.1) else a).1.1<0 then((0,1),(if a.2=0 then jg a (ZW (Za G).1 b.1) else a).2) else(if a.2=0 then jg a (ZW (Za G).1 b.1) else a)) c:=rfl
theorem Kda:∀(l:List Seg) (z:Int),Fit z->Fit (l.foldl (λn g=>wr (n+wr (g.to_ - g.from_))) z)
 | [],_,h=>h
 | _::l,_,_=>Kda l _ (wF _)
theorem wQ{h R:List Ob}{b a d p1 p2:Ob}{i:Nat}(hi:h.length+3<=i):(h++b::a::d::R)[i]? =(h++b::p1::p2::R)[i]? :=by
 rw[zX (by omega),zX (by omega)]
 obtain⟨r,c⟩:∃r,i - h.length=r+3:=⟨i - h.length - 3,by omega⟩
 rw[c]
 rfl
set_option maxHeartbeats 8000000 in
theorem c15(h:List Ob)(s:Setup)(a:SA)(k:SIn h s a)(f:SFit s)(x:AV)(l:List Ev)(w wk:Int)(hx:SlOf h x 11 (l.map evC))(hl:l.length<262144):
  ACalls Tryz.prog 58 [je s a,x,i64 w,i64 wk] h λr h'=>r=jIb (vA s l w wk)/\h'=h:=by
 refine zi Tryz.f58 [.cell 8 24,.tmp 9,.cell 10 24,.tmp 11] 178 rfl rfl rfl rfl rfl rfl (by decide) (⟨_,_,⟨rfl,rfl⟩,.refl⟩) λB=>?_
 simp only[go_sem,k.w.one,k.e.one,k.c.one,k.g.one,k.r.one,k.t.one]
 refine zg (c16 _ s a (k.app _) f) ?_
 rintro _ h1 ⟨rfl,e2⟩
 subst e2
 cases q1:z6 s
 ·have hp:vA s l w wk=⟨(0,1),0,(0,1),0⟩:=by simp[vA,q1]
  rw[hp]
  simp only[go_sem,q1,Bool.not_false]
  refine zg (c40 _) ?_
  rintro _ h1 ⟨rfl,e2⟩
  subst e2
  simp only[go_sem]
  refine zg (c40 _) ?_
  rintro _ h1 ⟨rfl,e2⟩
  subst e2
  simp only[go_sem]
  refine zn ?_<;>(simp only[go_sem]<;>try rfl)
 have hp:vA s l w wk=WC s (XQ s w l) (qA s (XQ s w l) w).1 wk:=by simp[vA,q1]
 obtain⟨ev,hev⟩:∃ev,ev=XQ s w l:=⟨_,rfl⟩
 obtain⟨I,hsg⟩:∃I,I=(qA s ev w).1:=⟨_,rfl⟩
 rw[<-hev, <-hsg] at hp
 have hevl:ev.length<262144:=by rw[hev];exact Nat.lt_of_le_of_lt Kca hl
 have hsgl:I.length<1048576:=by have:=Xg (s:=s) (l:=ev) (w:=w);rw[hsg];omega
 have kk:∀M,SIn (h++M) s a:=λM=>k.app M
 simp only[go_sem,q1,Bool.not_true,(kk _).w.one,(kk _).e.one,(kk _).c.one,(kk _).g.one,(kk _).r.one,(kk _).t.one]
 refine zg (c41 _ s a (kk _) x l w (hx.app _) (by omega)) ?_
 rintro xe h1 ⟨L1,rfl,n1,ne⟩
 rw[<-hev] at ne
 simp only[go_sem,(kk _).w.one,(kk _).e.one,(kk _).c.one,(kk _).g.one,(kk _).r.one,(kk _).t.one]
 have he1:=ne _ rfl
 simp only[zt,List.cons_append,List.nil_append] at he1
 refine zg (c21 _ s a (kk _) f xe ev w he1 (by omega)) ?_
 rintro _ h1 ⟨L2,y1,z1,rfl,n2,rfl,ny,nz⟩
 rw[<-hsg] at ny
 simp only[go_sem]
 refine zg (c40 _) ?_
 rintro _ h1 ⟨rfl,e2⟩
 subst e2
 obtain⟨u,O⟩:∃u,u=h++ .box 30 (qg s a):: .box 24 [i64 0,i64 0]:: .box 24 [i64 0,i64 0]::(L1++L2):=⟨_,rfl⟩
 have hp5:Pre h u:=⟨_,O,zl rfl (zl rfl (zl rfl (n1.app n2)))⟩
 have b0:u[h.length]? =some (.box 30 (qg s a)):=by rw[O];exact zM rfl
 have b1:u[h.length+1]? =some (.box 24 [i64 0,i64 0]):=by rw[O];exact zG (k:=1) rfl
 have b2:u[h.length+2]? =some (.box 24 [i64 0,i64 0]):=by rw[O];exact zG (k:=2) rfl
 have k5:SIn u s a:=by rw[O];exact k.app _
 have he5:SlOf u xe 11 (ev.map evC):=by
  have:=he1.app L2
  rw[O]
  simpa only[zt,List.cons_append,List.nil_append] using this
 have hy5:SlOf u y1 5 (I.map xT):=by
  have:=ny _ rfl
  rw[O]
  simpa only[zt,List.cons_append,List.nil_append] using this
 have N:h.length+3<=u.length:=by rw[O];simp
 have hcat:h++ .box 30 (qg s a):: .box 24 [AV.v (Value.int IntKind.i64 0),AV.v (Value.int IntKind.i64 0)]:: .box 24 [AV.v (Value.int IntKind.i64 0),AV.v (Value.int IntKind.i64 0)]::(L1++(L2++[Ob.box 210 [i64 0,i64 1,AV.v (Value.int IntKind.i64 0)]]))=u++[Ob.box 210 (xf ((0,1),0))]:=by rw[O];simp
 have hl5:h.length+(L1.length+L2.length+1+1+1)=u.length:=by rw[O];simp
 have hy51:=(hy5.app [Ob.box 210 (xf ((0,1),0))]).rows
 rw[<-hcat] at hy51
 simp only[go_sem,hy51,zb]
 rw[hcat]
 obtain⟨gl,hgl⟩:∃gl:List Seg->List qx,gl=λq=>(q.filter (jI wk)).map λg=>(xS s (vd ev g)).1:=⟨_,rfl⟩
 obtain⟨al,hal⟩:∃al:List Seg->qx × Int,al=λq=>(q.filter (jI wk)).foldl (λz g=>jg z ((0,1),(xS s (vd ev g)).2)) ((0,1),0):=⟨_,rfl⟩
 obtain⟨el,hel⟩:∃el:List Seg->Int,el=λq=>(q.filter (jI wk)).foldl (λn g=>wr (n+wr (g.to_ - g.from_))) 0:=⟨_,rfl⟩
 have gll:∀q,(gl q).length<=q.length:=λq=>by
  rw[hgl]
  simp only[zb]
  exact qw _ _
 refine zI (by decide) (λm T h'=>∃j:Nat,j<=I.length/\Pre u h'/\h'[u.length]? =some (.box 210 (xf (al (I.take j))))/\OwnS u h' 24 2 (T 16) ((gl (I.take j)).map jH)/\T 3=i64 wk/\T 4= .ptr h.length 0/\T 8= .ptr (h.length+1) 0/\T 9=i64 (el (I.take j))/\T 10= .ptr (h.length+2) 0/\T 12=xe/\T 15= .ptr u.length 0/\T 46=y1/\T 47=i64 I.length/\T 48=i64 j/\m=I.length - j) I.length
  ⟨0,by omega,Pre.refl.app (zD rfl),by rw[zM rfl,hal];rfl,.inl ⟨by simp only[go_sem],by rw[hgl];rfl⟩,by simp only[go_sem],by simp only[go_sem],by simp only[go_sem],by(simp only[go_sem]<;>rw[hel]<;>rfl),by simp only[go_sem],by simp only[go_sem],by(simp only[go_sem]<;>rw[O]<;>simp),by simp only[go_sem],by simp only[go_sem],by(simp only[go_sem]<;>rfl),rfl⟩ ?_
 rintro m T h' ⟨j,hj,V,W,ho,t3,t4,t8,t9,t10,X,b,t46,t47,θ,rfl⟩
 simp only[go_sem,t47,θ]
 refine ways (λe=>?_) (λe=>?_)
 ·have hlt:=dlt e
  have hy':=V.sl hy5
  have he':=V.sl he5
  have k':=V.sin k5
  have hee:=hy'.at (i:=j) (by simpa using hlt)
  have υ:(I.map xT)[j]? =some (xT I[j]):=by rw[zz,zj hlt];rfl
  have hkl:(j:Int)<I.length:=by omega
  have htk:=zE hlt
  have hmem:I[j]∈I:=zy hlt
  obtain⟨g,hg⟩:∃g,g=I[j]:=⟨_,rfl⟩
  rw[<-hg] at υ htk hmem
  have hA:List.length (xT g)=5:=rfl
  have skip:jI wk g=false->al (I.take (j+1))=al (I.take j)/\gl (I.take (j+1))=gl (I.take j)/\el (I.take (j+1))=el (I.take j):=λq=>by
   rw[<-htk,hal,hgl,hel]
   simp[qu,q]
  cases q2:g.kind != 1
  ·cases q3:xW g.from_ != wk
   ·have hk1:g.kind=1:=by simpa using q2
    have hw1:xW g.from_=wk:=by simpa using q3
    have hyes:jI wk g=true:=by simp[jI,hk1,hw1]
    have step:al (I.take (j+1))=jg (al (I.take j)) ((0,1),(xS s (vd ev g)).2)/\gl (I.take (j+1))=gl (I.take j)++[(xS s (vd ev g)).1]/\el (I.take (j+1))=wr (el (I.take j)+wr (g.to_ - g.from_)):=by
     rw[<-htk,hal,hgl,hel]
     simp[qu,hyes,qK]
    have hex:∃e∈ev,Zc g.id e=true:=kNa (w:=w) q1 (by rw[<-hsg];exact hmem) hk1
    rcases Xa (Zc g.id) ev with⟨_,hno⟩|⟨A,tk,R,hAR,hix,htk1,htk2⟩
    ·obtain⟨e,he,hi⟩:=hex
     rw[hno e he] at hi;cases hi
    have htask:=Wua hAR htk2 htk1
    have hAl:A.length<ev.length:=by rw[hAR];simp
    have ν:(ev.map evC)[A.length]? =some (evC tk):=xo (by rw[hAR];simp)
    have heeT:eOf h' xe=some 11:=he'.at (i:=A.length) (by simpa using hAl)
    have hklT:(A.length:Int)<(ev.length:Int):=by omega
    have hb53:∀M,(h'++(.box 146 (xT g)::M))[h'.length]? =some (.box 146 (xT g)):=λM=>by rw[zM rfl];rfl
    simp only[go_sem,t3,t46,θ,hee,hy'.rows,υ,hkl,zb,Int.toNat_natCast,zh,q2,q3,qt]
    refine zg (c17 g.from_ _) ?_
    rintro _ h4 ⟨rfl,e4⟩
    subst e4
    simp only[go_sem,t3,t9,X,θ,q3]
    refine zg (c42 _ xe 125 [.ptr h'.length 0] (ev.map evC) (λr=>Zc g.id (WA r)) (by rw[zb];omega) (λr hr=>by obtain⟨p,_,rfl⟩:=zr.1 hr;rfl) (he'.app _) (λr hr M=>by
     obtain⟨p,_,rfl⟩:=zr.1 hr
     exact c43 _ h'.length p g (by rw[zt];exact hb53 _))) ?_
    rintro _ h4 ⟨rfl,e4⟩
    subst e4
    rw[hix]
    have hb30:∀M,(h'++M)[h.length]? =some (.box 30 (qg s a)):=λM=>by
     obtain⟨L,rfl,_⟩:=V
     rw[zt];exact ze b0
    have kM:∀M,SIn (h'++M) s a:=λM=>k'.app M
    have eT:∀M,eOf (h'++M) xe=some 11:=λM=>(he'.app M).at (i:=A.length) (by simpa using hAl)
    have rT:∀M,qa (h'++M) xe=some (ev.map evC):=λM=>(he'.app M).rows
    have oM:∀M,OwnS u (h'++M) 24 2 (T 16) ((gl (I.take j)).map jH):=λM=>ho.app M
    have bxM:∀M,(h'++M)[u.length]? =some (.box 210 (xf (al (I.take j)))):=λM=>ze W
    obtain⟨gp,hgp⟩:∃gp,gp=xS s tk:=⟨_,rfl⟩
    rw[htask, <-hgp] at step
    obtain⟨s1,s2,s3⟩:=step
    have hcap:((gl (I.take j)).length+1)*17<=140737488355328:=by
     have:=gll (I.take j)
     rw[zJ] at this
     omega
    simp only[go_sem]
    refine zL rfl [.res] 1 [(1,0,[]),(2,0,[]),(0,0,[]),(3,0,[]),(4,0,[]),(5,0,[]),(6,0,[]),(7,0,[]),(8,0,[]),(9,0,[]),(10,0,[]),(11,0,[])] rfl (by decide) (by decide) ?_
    simp only[go_sem,t4,X,hb30,eT,rT,ν,hklT,zb,Int.toNat_natCast,zh,(kM _).w.one,(kM _).e.one,(kM _).c.one,(kM _).g.one,(kM _).r.one,(kM _).t.one]
    refine zg (c22 _ s a (kM _) f tk) ?_
    rintro _ h4 ⟨rfl,e4⟩
    subst e4
    rw[<-hgp]
    rcases ho with⟨φ,hnil⟩|⟨id,st,u1,φ,u3⟩
    ·simp only[go_sem,φ,t4,X,hb30,eT,rT,ν,hklT,zb,Int.toNat_natCast,zh]
     refine zg (c40 _) ?_
     rintro _ h4 ⟨rfl,e4⟩
     subst e4
     simp only[go_sem,b]
     refine zg (qla _ u.length (al (I.take j)) ((0,1),gp.2) (bxM _)) ?_
     rintro _ h4 ⟨rfl,rfl⟩
     simp only[go_sem,θ]
     have hlt5:u.length<h'.length:=(zd.1 W).1
     refine⟨I.length - (j+1),by omega,j+1,by omega,(V.app (zl rfl (zl rfl (zl rfl (zD rfl))))).set (zo _) rfl,by rw[zm (bxM _),s1],.inr ⟨h'.length+3,0,by omega,rfl,?_⟩,t3,t4,t8,by rw[s3],t10,X,b,t46,t47,qf (by omega) rfl,rfl⟩
     rw[zc (by omega),zG (k:=3) rfl,s2,zw,hnil]
     rfl
    ·have hgM:∀M,(h'++M)[id]? =some (.row 24 2 ((gl (I.take j)).map jH) st):=λM=>ze u3
     simp only[go_sem,φ,t4,X,hgM,hcap,hb30,eT,rT,ν,hklT,zb,Int.toNat_natCast,zh]
     refine zg (c40 _) ?_
     rintro _ h4 ⟨rfl,e4⟩
     subst e4
     have hne:id≠u.length:=λq=>by rw[q,W] at u3;cases u3
     have bxS:∀M o,((h'++M).set id o)[u.length]? =some (.box 210 (xf (al (I.take j)))):=λM o=>by rw[zc hne];exact bxM _
     simp only[go_sem,b]
     refine zg (qla _ u.length (al (I.take j)) ((0,1),gp.2) (bxS _ _)) ?_
     rintro _ h4 ⟨rfl,rfl⟩
     simp only[go_sem,θ]
     refine⟨I.length - (j+1),by omega,j+1,by omega,((V.app (zl rfl (zl rfl (zD rfl)))).set u1 rfl).set (zo _) rfl,by rw[zm (bxS _ _),s1],.inr ⟨id,st+1,u1,rfl,?_⟩,t3,t4,t8,by rw[s3],t10,X,b,t46,t47,qf (by omega) rfl,rfl⟩
     rw[zc (Ne.symm hne),zm (hgM _),s2,zw]
     rfl
   ·simp only[go_sem,t3,t46,θ,hee,hy'.rows,υ,hkl,zb,Int.toNat_natCast,zh,q2,q3,qt]
    refine zg (c17 g.from_ _) ?_
    rintro _ h4 ⟨rfl,e4⟩
    subst e4
    simp only[go_sem,t3,θ,q3]
    have sk:jI wk g=false:=by
     unfold jI
     have:(xW g.from_==wk)=false:=by simpa using q3
     rw[this,Bool.and_false]
    exact⟨I.length - (j+1),by omega,j+1,by omega,V.app (zD rfl),by rw[(skip sk).1];exact ze W,by rw[(skip sk).2.1];exact ho.app _,t4,t8,by rw[(skip sk).2.2];exact t9,t10,X,b,t46,t47,qf (by omega) rfl,rfl⟩
  ·simp only[go_sem,t46,θ,hee,hy'.rows,υ,hkl,zb,Int.toNat_natCast,zh,q2,qt]
   have sk:jI wk g=false:=by
    unfold jI
    have:(g.kind==1)=false:=by simpa using q2
    rw[this,Bool.false_and]
   exact⟨I.length - (j+1),by omega,j+1,by omega,V.app (zD rfl),by rw[(skip sk).1];exact ze W,by rw[(skip sk).2.1];exact ho.app _,t3,t4,t8,by rw[(skip sk).2.2];exact t9,t10,X,b,t47,qf (by omega) rfl,rfl⟩
 ·have hge:=j9 e
  have hj2:j=I.length:=by omega
  subst hj2
  rw[zP] at W ho t9
  obtain⟨z0,hz0⟩:∃z0,z0=al I:=⟨_,rfl⟩
  obtain⟨G,hG⟩:∃G,G=gl I:=⟨_,rfl⟩
  obtain⟨J,hn0⟩:∃J,J=el I:=⟨_,rfl⟩
  rw[<-hz0] at W
  rw[<-hG] at ho
  rw[<-hn0] at t9
  have hGf:∀p∈G,jq p:=λp hp=>by
   rw[hG,hgl] at hp
   obtain⟨q,_,rfl⟩:=zr.1 hp
   exact QBa _ _
  have hGl:G.length<1099511627776:=by have:=gll I;rw[hG];omega
  have hGo:=ho.rows
  obtain⟨xg,hxg⟩:∃xg,xg=T 16:=⟨_,rfl⟩
  rw[<-hxg] at hGo ho
  have φ:T 16=xg:=hxg.symm
  have hlt5:u.length<h'.length:=(zd.1 W).1
  simp only[go_sem,φ]
  refine zg (c23 _ xg G hGf hGl hGo) ?_
  rintro _ h4 ⟨rfl,e4⟩
  subst e4
  simp only[go_sem,b]
  refine zg (qla _ u.length z0 (Za G) W) ?_
  rintro _ h6 ⟨rfl,e6⟩
  obtain⟨z1,hz1⟩:∃z1,z1=jg z0 (Za G):=⟨_,rfl⟩
  rw[<-hz1] at e6
  have p6:Pre u h6:=by rw[e6];exact V.set (zo _) rfl
  have l6:h6.length=h4.length:=by rw[e6];simp
  have a6:∀M,(h6++M)[u.length]? =some (.box 210 (xf z1)):=λM=>ze (by rw[e6];exact zm W)
  have o6:OwnS u h6 24 2 xg (G.map jH):=by rw[e6];exact ho.set_box W _
  clear e6 W ho hGo
  simp only[go_sem]
  refine zL rfl [.res] 1 [(1,0,[]),(2,0,[]),(0,0,[2]),(3,0,[]),(4,0,[]),(5,0,[])] rfl (by decide) (by decide) ?_
  simp only[go_sem,b,a6]
  refine zg (c40 _) ?_
  rintro _ h7 ⟨rfl,e7⟩
  subst e7
  simp only[go_sem,b,a6]
  obtain⟨h7,e7⟩:∃h7,h7=h6++[Ob.box 210 [i64 0,i64 1,i64 z1.2]]:=⟨_,rfl⟩
  have p7:Pre u h7:=by rw[e7];exact p6.app (zD rfl)
  have a7:h7[u.length]? =some (.box 210 (xf z1)):=by rw[e7];exact a6 _
  have d7:h7[h6.length]? =some (.box 210 (xf ((0,1),z1.2))):=by rw[e7];exact zM rfl
  have o7:OwnS u h7 24 2 xg (G.map jH):=by rw[e7];exact o6.app _
  have l76:u.length<h6.length:=by omega
  rw[<-e7]
  clear e7
  have b7:∀M,(h7++M)[h.length]? =some (.box 30 (qg s a)):=λM=>by
   obtain⟨L,rfl,_⟩:=p7
   rw[zt];exact ze b0
  have b70:h7[h.length]? =some (.box 30 (qg s a)):=by simpa using b7 []
  refine zL rfl [] 0 [(0,0,[]),(2,0,[]),(3,0,[]),(1,0,[]),(4,0,[1]),(5,0,[]),(6,0,[]),(7,0,[]),(8,0,[]),(9,0,[])] rfl (by decide) (by decide) ?_
  simp only[go_sem,t4,X,t3,b7,b70]
  refine zg (c45 _ xe ev wk (p7.sl he5) (by omega)) ?_
  rintro _ h8 ⟨rfl,e8⟩
  subst e8
  simp only[go_sem,t4,X,t3,b7,b70]
  refine zg (c18 (wr (s.fault*(kx ev wk:Int))) 1 (wF _) (by simp[Fit]) _) ?_
  rintro _ h8 ⟨rfl,e8⟩
  subst e8
  obtain⟨mk,hmk⟩:∃mk,mk=make (wr (s.fault*(kx ev wk:Int))) 1:=⟨_,rfl⟩
  rw[<-hmk]
  simp only[go_sem,t4,X,t3,b7,b70]
  refine zg (qla _ h6.length ((0,1),z1.2) mk d7) ?_
  rintro _ h8 ⟨rfl,e8⟩
  obtain⟨K,σ⟩:∃K,K=jg ((0,1),z1.2) mk:=⟨_,rfl⟩
  rw[<-σ] at e8
  have p8:Pre u h8:=by rw[e8];exact p7.set (by omega) rfl
  have a8:h8[u.length]? =some (.box 210 (xf z1)):=by rw[e8,zc (by omega)];exact a7
  have d8:h8[h6.length]? =some (.box 210 (xf K)):=by rw[e8];exact zm d7
  have o8:OwnS u h8 24 2 xg (G.map jH):=by rw[e8];exact o7.set_box d7 _
  clear e8 o7 a7 d7
  simp only[go_sem,d8,b]
  refine zg (qla _ u.length z1 K a8) ?_
  rintro _ h9 ⟨rfl,e9⟩
  obtain⟨z2,hz2⟩:∃z2,z2=jg z1 K:=⟨_,rfl⟩
  rw[<-hz2] at e9
  have p9:Pre u h9:=by rw[e9];exact p8.set (zo _) rfl
  have a90:h9[u.length]? =some (.box 210 (xf z2)):=by rw[e9];exact zm a8
  have a9:∀M,(h9++M)[u.length]? =some (.box 210 (xf z2)):=λM=>ze a90
  have d9:h9[h6.length]? =some (.box 210 (xf K)):=by rw[e9,zc (by omega)];exact d8
  have o9:OwnS u h9 24 2 xg (G.map jH):=by rw[e9];exact o8.set_box a8 _
  clear e9 o8 a8 d8
  have hW:vA s l w wk=jJb z2 K G J:=by
   rw[hp,hz2,σ,hmk,hz1,hz0,hG,hn0,hal,hgl,hel]
   rfl
  have hn0f:Fit J:=by rw[hn0,hel];exact Kda _ _ (by simp[Fit])
  rw[hW,Wva]
  clear hW
  have flost:jq K.1:=by rw[σ,hmk];unfold jg;split;exact Qz _ _;exact⟨by simp[Fit],by simp[Fit]⟩
  cases q5:z2.2==0
  ·have g2:¬ z2.2=0:=by simpa using q5
   rw[if_neg g2,if_neg (λq=>g2 q.1)]
   simp only[go_sem,b,a90,q5,qt]
   refine zL rfl [.res] 1 [(1,0,[]),(2,0,[]),(0,0,[2]),(3,0,[]),(4,0,[]),(5,0,[])] rfl (by decide) (by decide) ?_
   simp only[go_sem,b,a9]
   refine zg (c40 _) ?_
   rintro _ ξ ⟨rfl,Y⟩
   rw[Y]
   clear Y ξ
   simp only[go_sem,b,a9]
   obtain⟨S,Z⟩:∃S,S=h9++[Ob.box 210 [i64 0,i64 1,i64 z2.2]]:=⟨_,rfl⟩
   have pD:Pre u S:=by rw[Z];exact p9.app (zD rfl)
   have U:S[u.length]? =some (.box 210 (xf z2)):=by rw[Z];exact a9 _
   have Q:S[h9.length]? =some (.box 210 (xf ((0,1),z2.2))):=by rw[Z];exact zM rfl
   have lD:u.length<h9.length:=(zd.1 a90).1
   rw[<-Z]
   clear Z
   by_cases g5:J>0/\z2.2=0
   ·exact absurd g5.2 g2
   ·obtain⟨y,P⟩:∃y:qx × Int,y=((0,1),z2.2):=⟨_,rfl⟩
    have hE:V5 z2 J=if y.2=0 then⟨z2.1,J,y.1,0⟩ else⟨(0,0),J,(0,0),y.2⟩:=by
     unfold V5
     simp only[if_neg g5]
     rw[P]
    rw[<-P] at Q
    by_cases g7:J>0
    ·have d5:decide (J>0)=true:=by simpa using g7
     have e5:(z2.2==0)=false:=by
      have:¬ z2.2=0:=λq=>g5 ⟨g7,q⟩
      simpa using this
     simp only[go_sem,t9,d5,e5,qt,b,U]
     obtain⟨M,hM,nM⟩:=pD
     have d:S=h++ .box 30 (qg s a):: .box 24 [i64 0,i64 0]:: .box 24 [i64 0,i64 0]::(L1++(L2++M)):=by rw[hM,O];simp
     have E:∀D C,(h++ .box 30 (qg s a)::D::C::(L1++(L2++M)))[u.length]? =some (.box 210 (xf z2)):=λD C=>by rw[wQ (p1:= .box 24 [i64 0,i64 0]) (p2:= .box 24 [i64 0,i64 0]) N, <-d];exact U
     have F:∀D C,(h++ .box 30 (qg s a)::D::C::(L1++(L2++M)))[h9.length]? =some (.box 210 (xf y)):=λD C=>by rw[wQ (p1:= .box 24 [i64 0,i64 0]) (p2:= .box 24 [i64 0,i64 0]) (by omega), <-d];exact Q
     rw[d]
     rw[hE]
     clear U Q d
     by_cases H:y.2=0
     ·have f6:(y.2 != 0)=false:=by simpa using H
      rw[if_pos H]
      simp only[go_sem,E,F,f6,t4,t8,t9,t10,b]
      refine zL rfl [] 0 [(0,0,[]),(2,0,[]),(3,0,[]),(1,0,[]),(4,0,[]),(5,0,[4]),(6,0,[]),(7,0,[]),(8,0,[])] rfl (by decide) (by decide) ?_
      simp only[go_sem,E,F,t4,t8,t9,t10,b]
      refine zn ?_<;>(simp only[go_sem,t8,t10]<;>try rfl)
     ·have f6:(y.2 != 0)=true:=by simpa using H
      rw[if_neg H]
      simp only[go_sem,E,F,f6,t4,t8,t9,t10,b]
      refine zL rfl [] 0 [(0,0,[]),(1,0,[]),(2,0,[]),(3,0,[]),(4,0,[]),(5,0,[4]),(6,0,[]),(7,0,[4]),(8,0,[])] rfl (by decide) (by decide) ?_
      simp only[go_sem,E,F,t4,t8,t9,t10,b]
      refine zn ?_<;>(simp only[go_sem,t8,t10]<;>try rfl)
    ·have d5:decide (J>0)=false:=by simpa using g7
     simp only[go_sem,t9,d5,qt,b]
     obtain⟨M,hM,nM⟩:=pD
     have d:S=h++ .box 30 (qg s a):: .box 24 [i64 0,i64 0]:: .box 24 [i64 0,i64 0]::(L1++(L2++M)):=by rw[hM,O];simp
     have E:∀D C,(h++ .box 30 (qg s a)::D::C::(L1++(L2++M)))[u.length]? =some (.box 210 (xf z2)):=λD C=>by rw[wQ (p1:= .box 24 [i64 0,i64 0]) (p2:= .box 24 [i64 0,i64 0]) N, <-d];exact U
     have F:∀D C,(h++ .box 30 (qg s a)::D::C::(L1++(L2++M)))[h9.length]? =some (.box 210 (xf y)):=λD C=>by rw[wQ (p1:= .box 24 [i64 0,i64 0]) (p2:= .box 24 [i64 0,i64 0]) (by omega), <-d];exact Q
     rw[d]
     rw[hE]
     clear U Q d
     by_cases H:y.2=0
     ·have f6:(y.2 != 0)=false:=by simpa using H
      rw[if_pos H]
      simp only[go_sem,E,F,f6,t4,t8,t9,t10,b]
      refine zL rfl [] 0 [(0,0,[]),(2,0,[]),(3,0,[]),(1,0,[]),(4,0,[]),(5,0,[4]),(6,0,[]),(7,0,[]),(8,0,[])] rfl (by decide) (by decide) ?_
      simp only[go_sem,E,F,t4,t8,t9,t10,b]
      refine zn ?_<;>(simp only[go_sem,t8,t10]<;>try rfl)
     ·have f6:(y.2 != 0)=true:=by simpa using H
      rw[if_neg H]
      simp only[go_sem,E,F,f6,t4,t8,t9,t10,b]
      refine zL rfl [] 0 [(0,0,[]),(1,0,[]),(2,0,[]),(3,0,[]),(4,0,[]),(5,0,[4]),(6,0,[]),(7,0,[4]),(8,0,[])] rfl (by decide) (by decide) ?_
      simp only[go_sem,E,F,t4,t8,t9,t10,b]
      refine zn ?_<;>(simp only[go_sem,t8,t10]<;>try rfl)
  ·have g2:z2.2=0:=by simpa using q5
   rw[if_pos g2]
   simp only[go_sem,b,φ,a90,q5,qt]
   refine zg (c23 _ xg G hGf hGl o9.rows) ?_
   rintro _ h10 ⟨rfl,e10⟩
   rw[e10]
   clear e10 h10
   have d9M:∀M,(h9++M)[h6.length]? =some (.box 210 (xf K)):=λM=>ze d9
   simp only[go_sem,d9,a9,d9M]
   refine zg (c19 (Za G).1 K.1 (yUa G) flost _) ?_
   rintro _ h10 ⟨rfl,e10⟩
   rw[e10]
   clear e10 h10
   have hsub:Zp VLa (Za G).1 K.1=ZW (Za G).1 K.1:=rfl
   rw[hsub]
   simp only[go_sem,b]
   refine zg (qla _ u.length z2 (ZW (Za G).1 K.1) (a9 _)) ?_
   rintro _ hC ⟨rfl,eC⟩
   obtain⟨z3,hz3⟩:∃z3,z3=jg z2 (ZW (Za G).1 K.1):=⟨_,rfl⟩
   rw[<-hz3] at eC⊢
   have pC:Pre u hC:=by rw[eC];exact(p9.app (zD rfl)).set (zo _) rfl
   have ι:hC[u.length]? =some (.box 210 (xf z3)):=by rw[eC];exact zm (a9 _)
   have aC:∀M,(hC++M)[u.length]? =some (.box 210 (xf z3)):=λM=>ze ι
   have fz3:jq z3.1:=by rw[hz3];unfold jg;rw[if_pos g2];exact KZ _ _ _
   clear eC
   cases q6:z3.2==0
   ·have g3:¬ z3.2=0:=by simpa using q6
    rw[if_neg (λq=>g3 q.1)]
    simp only[go_sem,b,ι,q6,qt]
    refine zL rfl [.res] 1 [(1,0,[]),(2,0,[]),(0,0,[2]),(3,0,[]),(4,0,[]),(5,0,[])] rfl (by decide) (by decide) ?_
    simp only[go_sem,b,aC]
    refine zg (c40 _) ?_
    rintro _ ξ ⟨rfl,Y⟩
    rw[Y]
    clear Y ξ
    simp only[go_sem,b,aC]
    obtain⟨S,Z⟩:∃S,S=hC++[Ob.box 210 [i64 0,i64 1,i64 z3.2]]:=⟨_,rfl⟩
    have pD:Pre u S:=by rw[Z];exact pC.app (zD rfl)
    have U:S[u.length]? =some (.box 210 (xf z3)):=by rw[Z];exact aC _
    have Q:S[hC.length]? =some (.box 210 (xf ((0,1),z3.2))):=by rw[Z];exact zM rfl
    have lD:u.length<hC.length:=(zd.1 ι).1
    rw[<-Z]
    clear Z
    by_cases g5:J>0/\z3.2=0
    ·exact absurd g5.2 g3
    ·obtain⟨y,P⟩:∃y:qx × Int,y=((0,1),z3.2):=⟨_,rfl⟩
     have hE:V5 z3 J=if y.2=0 then⟨z3.1,J,y.1,0⟩ else⟨(0,0),J,(0,0),y.2⟩:=by
      unfold V5
      simp only[if_neg g5]
      rw[P]
     rw[<-P] at Q
     by_cases g7:J>0
     ·have d5:decide (J>0)=true:=by simpa using g7
      have e5:(z3.2==0)=false:=by
       have:¬ z3.2=0:=λq=>g5 ⟨g7,q⟩
       simpa using this
      simp only[go_sem,t9,d5,e5,qt,b,U]
      obtain⟨M,hM,nM⟩:=pD
      have d:S=h++ .box 30 (qg s a):: .box 24 [i64 0,i64 0]:: .box 24 [i64 0,i64 0]::(L1++(L2++M)):=by rw[hM,O];simp
      have E:∀D C,(h++ .box 30 (qg s a)::D::C::(L1++(L2++M)))[u.length]? =some (.box 210 (xf z3)):=λD C=>by rw[wQ (p1:= .box 24 [i64 0,i64 0]) (p2:= .box 24 [i64 0,i64 0]) N, <-d];exact U
      have F:∀D C,(h++ .box 30 (qg s a)::D::C::(L1++(L2++M)))[hC.length]? =some (.box 210 (xf y)):=λD C=>by rw[wQ (p1:= .box 24 [i64 0,i64 0]) (p2:= .box 24 [i64 0,i64 0]) (by omega), <-d];exact Q
      rw[d]
      rw[hE]
      clear U Q d
      by_cases H:y.2=0
      ·have f6:(y.2 != 0)=false:=by simpa using H
       rw[if_pos H]
       simp only[go_sem,E,F,f6,t4,t8,t9,t10,b]
       refine zL rfl [] 0 [(0,0,[]),(2,0,[]),(3,0,[]),(1,0,[]),(4,0,[]),(5,0,[4]),(6,0,[]),(7,0,[]),(8,0,[])] rfl (by decide) (by decide) ?_
       simp only[go_sem,E,F,t4,t8,t9,t10,b]
       refine zn ?_<;>(simp only[go_sem,t8,t10]<;>try rfl)
      ·have f6:(y.2 != 0)=true:=by simpa using H
       rw[if_neg H]
       simp only[go_sem,E,F,f6,t4,t8,t9,t10,b]
       refine zL rfl [] 0 [(0,0,[]),(1,0,[]),(2,0,[]),(3,0,[]),(4,0,[]),(5,0,[4]),(6,0,[]),(7,0,[4]),(8,0,[])] rfl (by decide) (by decide) ?_
       simp only[go_sem,E,F,t4,t8,t9,t10,b]
       refine zn ?_<;>(simp only[go_sem,t8,t10]<;>try rfl)
     ·have d5:decide (J>0)=false:=by simpa using g7
      simp only[go_sem,t9,d5,qt,b]
      obtain⟨M,hM,nM⟩:=pD
      have d:S=h++ .box 30 (qg s a):: .box 24 [i64 0,i64 0]:: .box 24 [i64 0,i64 0]::(L1++(L2++M)):=by rw[hM,O];simp
      have E:∀D C,(h++ .box 30 (qg s a)::D::C::(L1++(L2++M)))[u.length]? =some (.box 210 (xf z3)):=λD C=>by rw[wQ (p1:= .box 24 [i64 0,i64 0]) (p2:= .box 24 [i64 0,i64 0]) N, <-d];exact U
      have F:∀D C,(h++ .box 30 (qg s a)::D::C::(L1++(L2++M)))[hC.length]? =some (.box 210 (xf y)):=λD C=>by rw[wQ (p1:= .box 24 [i64 0,i64 0]) (p2:= .box 24 [i64 0,i64 0]) (by omega), <-d];exact Q
      rw[d]
      rw[hE]
      clear U Q d
      by_cases H:y.2=0
      ·have f6:(y.2 != 0)=false:=by simpa using H
       rw[if_pos H]
       simp only[go_sem,E,F,f6,t4,t8,t9,t10,b]
       refine zL rfl [] 0 [(0,0,[]),(2,0,[]),(3,0,[]),(1,0,[]),(4,0,[]),(5,0,[4]),(6,0,[]),(7,0,[]),(8,0,[])] rfl (by decide) (by decide) ?_
       simp only[go_sem,E,F,t4,t8,t9,t10,b]
       refine zn ?_<;>(simp only[go_sem,t8,t10]<;>try rfl)
      ·have f6:(y.2 != 0)=true:=by simpa using H
       rw[if_neg H]
       simp only[go_sem,E,F,f6,t4,t8,t9,t10,b]
       refine zL rfl [] 0 [(0,0,[]),(1,0,[]),(2,0,[]),(3,0,[]),(4,0,[]),(5,0,[4]),(6,0,[]),(7,0,[4]),(8,0,[])] rfl (by decide) (by decide) ?_
       simp only[go_sem,E,F,t4,t8,t9,t10,b]
       refine zn ?_<;>(simp only[go_sem,t8,t10]<;>try rfl)
   ·have g3:z3.2=0:=by simpa using q6
    cases q7:decide (z3.1.1<0)
    ·have g4:¬ z3.1.1<0:=by simpa using q7
     rw[if_neg (λq=>g4 q.2)]
     simp only[go_sem,b,ι,q6,q7,qt]
     refine zL rfl [.res] 1 [(1,0,[]),(2,0,[]),(0,0,[2]),(3,0,[]),(4,0,[]),(5,0,[])] rfl (by decide) (by decide) ?_
     simp only[go_sem,b,aC]
     refine zg (c40 _) ?_
     rintro _ ξ ⟨rfl,Y⟩
     rw[Y]
     clear Y ξ
     simp only[go_sem,b,aC]
     obtain⟨S,Z⟩:∃S,S=hC++[Ob.box 210 [i64 0,i64 1,i64 z3.2]]:=⟨_,rfl⟩
     have pD:Pre u S:=by rw[Z];exact pC.app (zD rfl)
     have U:S[u.length]? =some (.box 210 (xf z3)):=by rw[Z];exact aC _
     have Q:S[hC.length]? =some (.box 210 (xf ((0,1),z3.2))):=by rw[Z];exact zM rfl
     have lD:u.length<hC.length:=(zd.1 ι).1
     rw[<-Z]
     clear Z
     by_cases g5:J>0/\z3.2=0
     ·have d5:decide (J>0)=true:=by simpa using g5.1
      have e5:(z3.2==0)=true:=by simpa using g5.2
      simp only[go_sem,t9,d5,e5,qt,b,U,Q]
      refine zg (c18 J 1 hn0f (by simp[Fit]) _) ?_
      rintro _ h21 ⟨rfl,e21⟩
      rw[e21]
      clear e21 h21
      obtain⟨mn,μ⟩:∃mn,mn=make J 1:=⟨_,rfl⟩
      rw[<-μ]
      have fmn:jq mn.1:=by rw[μ];exact Qz _ _
      simp only[go_sem]
      refine zg (qla _ hC.length ((0,1),z3.2) mn (ze Q)) ?_
      rintro _ ζ ⟨rfl,eE⟩
      obtain⟨dm,hdm⟩:∃dm,dm=jg ((0,1),z3.2) mn:=⟨_,rfl⟩
      rw[<-hdm] at eE
      have pE:Pre u ζ:=by rw[eE];exact(pD.app (zD rfl)).set (by omega) rfl
      have aE:ζ[u.length]? =some (.box 210 (xf z3)):=by rw[eE,zc (by omega)];exact ze U
      have bE:ζ[S.length]? =some (.box 24 [i64 mn.1.1,i64 mn.1.2]):=by
       have:=(zd.1 Q).1
       rw[eE,zc (by omega)];exact zM rfl
      have dE:ζ[hC.length]? =some (.box 210 (xf dm)):=by rw[eE];exact zm (ze Q)
      clear eE U Q
      simp only[go_sem,b,aE,bE]
      refine zg (c46 z3.1 mn.1 fz3 fmn _) ?_
      rintro _ h22 ⟨rfl,e22⟩
      rw[e22]
      clear e22 h22
      obtain⟨dv,hdv⟩:∃dv,dv=VY z3.1 mn.1:=⟨_,rfl⟩
      have hdv2:Zp Xna z3.1 mn.1=dv:=hdv.symm
      rw[hdv2]
      simp only[go_sem]
      refine zg (qla _ hC.length dm dv dE) ?_
      rintro _ hG ⟨rfl,eG⟩
      obtain⟨y,P⟩:∃y,y=jg dm dv:=⟨_,rfl⟩
      rw[<-P] at eG
      have pG:Pre u hG:=by rw[eG];exact pE.set (by omega) rfl
      have aG:hG[u.length]? =some (.box 210 (xf z3)):=by rw[eG,zc (by omega)];exact aE
      have dG:hG[hC.length]? =some (.box 210 (xf y)):=by rw[eG];exact zm dE
      clear eG aE bE dE
      have hE:V5 z3 J=if y.2=0 then⟨z3.1,J,y.1,0⟩ else⟨(0,0),J,(0,0),y.2⟩:=by
       unfold V5
       simp only[if_pos g5]
       rw[<-μ, <-hdm, <-hdv, <-P]
      obtain⟨M,hM,nM⟩:=pG
      have d:hG=h++ .box 30 (qg s a):: .box 24 [i64 0,i64 0]:: .box 24 [i64 0,i64 0]::(L1++(L2++M)):=by rw[hM,O];simp
      have E:∀D C,(h++ .box 30 (qg s a)::D::C::(L1++(L2++M)))[u.length]? =some (.box 210 (xf z3)):=λD C=>by rw[wQ (p1:= .box 24 [i64 0,i64 0]) (p2:= .box 24 [i64 0,i64 0]) N, <-d];exact aG
      have F:∀D C,(h++ .box 30 (qg s a)::D::C::(L1++(L2++M)))[hC.length]? =some (.box 210 (xf y)):=λD C=>by rw[wQ (p1:= .box 24 [i64 0,i64 0]) (p2:= .box 24 [i64 0,i64 0]) (by omega), <-d];exact dG
      rw[d]
      rw[hE]
      clear aG dG d
      by_cases H:y.2=0
      ·have f6:(y.2 != 0)=false:=by simpa using H
       rw[if_pos H]
       simp only[go_sem,E,F,f6,t4,t8,t9,t10,b]
       refine zL rfl [] 0 [(0,0,[]),(2,0,[]),(3,0,[]),(1,0,[]),(4,0,[]),(5,0,[4]),(6,0,[]),(7,0,[]),(8,0,[])] rfl (by decide) (by decide) ?_
       simp only[go_sem,E,F,t4,t8,t9,t10,b]
       refine zn ?_<;>(simp only[go_sem,t8,t10]<;>try rfl)
      ·have f6:(y.2 != 0)=true:=by simpa using H
       rw[if_neg H]
       simp only[go_sem,E,F,f6,t4,t8,t9,t10,b]
       refine zL rfl [] 0 [(0,0,[]),(1,0,[]),(2,0,[]),(3,0,[]),(4,0,[]),(5,0,[4]),(6,0,[]),(7,0,[4]),(8,0,[])] rfl (by decide) (by decide) ?_
       simp only[go_sem,E,F,t4,t8,t9,t10,b]
       refine zn ?_<;>(simp only[go_sem,t8,t10]<;>try rfl)
     ·obtain⟨y,P⟩:∃y:qx × Int,y=((0,1),z3.2):=⟨_,rfl⟩
      have hE:V5 z3 J=if y.2=0 then⟨z3.1,J,y.1,0⟩ else⟨(0,0),J,(0,0),y.2⟩:=by
       unfold V5
       simp only[if_neg g5]
       rw[P]
      rw[<-P] at Q
      by_cases g7:J>0
      ·have d5:decide (J>0)=true:=by simpa using g7
       have e5:(z3.2==0)=false:=by
        have:¬ z3.2=0:=λq=>g5 ⟨g7,q⟩
        simpa using this
       simp only[go_sem,t9,d5,e5,qt,b,U]
       obtain⟨M,hM,nM⟩:=pD
       have d:S=h++ .box 30 (qg s a):: .box 24 [i64 0,i64 0]:: .box 24 [i64 0,i64 0]::(L1++(L2++M)):=by rw[hM,O];simp
       have E:∀D C,(h++ .box 30 (qg s a)::D::C::(L1++(L2++M)))[u.length]? =some (.box 210 (xf z3)):=λD C=>by rw[wQ (p1:= .box 24 [i64 0,i64 0]) (p2:= .box 24 [i64 0,i64 0]) N, <-d];exact U
       have F:∀D C,(h++ .box 30 (qg s a)::D::C::(L1++(L2++M)))[hC.length]? =some (.box 210 (xf y)):=λD C=>by rw[wQ (p1:= .box 24 [i64 0,i64 0]) (p2:= .box 24 [i64 0,i64 0]) (by omega), <-d];exact Q
       rw[d]
       rw[hE]
       clear U Q d
       by_cases H:y.2=0
       ·have f6:(y.2 != 0)=false:=by simpa using H
        rw[if_pos H]
        simp only[go_sem,E,F,f6,t4,t8,t9,t10,b]
        refine zL rfl [] 0 [(0,0,[]),(2,0,[]),(3,0,[]),(1,0,[]),(4,0,[]),(5,0,[4]),(6,0,[]),(7,0,[]),(8,0,[])] rfl (by decide) (by decide) ?_
        simp only[go_sem,E,F,t4,t8,t9,t10,b]
        refine zn ?_<;>(simp only[go_sem,t8,t10]<;>try rfl)
       ·have f6:(y.2 != 0)=true:=by simpa using H
        rw[if_neg H]
        simp only[go_sem,E,F,f6,t4,t8,t9,t10,b]
        refine zL rfl [] 0 [(0,0,[]),(1,0,[]),(2,0,[]),(3,0,[]),(4,0,[]),(5,0,[4]),(6,0,[]),(7,0,[4]),(8,0,[])] rfl (by decide) (by decide) ?_
        simp only[go_sem,E,F,t4,t8,t9,t10,b]
        refine zn ?_<;>(simp only[go_sem,t8,t10]<;>try rfl)
      ·have d5:decide (J>0)=false:=by simpa using g7
       simp only[go_sem,t9,d5,qt,b]
       obtain⟨M,hM,nM⟩:=pD
       have d:S=h++ .box 30 (qg s a):: .box 24 [i64 0,i64 0]:: .box 24 [i64 0,i64 0]::(L1++(L2++M)):=by rw[hM,O];simp
       have E:∀D C,(h++ .box 30 (qg s a)::D::C::(L1++(L2++M)))[u.length]? =some (.box 210 (xf z3)):=λD C=>by rw[wQ (p1:= .box 24 [i64 0,i64 0]) (p2:= .box 24 [i64 0,i64 0]) N, <-d];exact U
       have F:∀D C,(h++ .box 30 (qg s a)::D::C::(L1++(L2++M)))[hC.length]? =some (.box 210 (xf y)):=λD C=>by rw[wQ (p1:= .box 24 [i64 0,i64 0]) (p2:= .box 24 [i64 0,i64 0]) (by omega), <-d];exact Q
       rw[d]
       rw[hE]
       clear U Q d
       by_cases H:y.2=0
       ·have f6:(y.2 != 0)=false:=by simpa using H
        rw[if_pos H]
        simp only[go_sem,E,F,f6,t4,t8,t9,t10,b]
        refine zL rfl [] 0 [(0,0,[]),(2,0,[]),(3,0,[]),(1,0,[]),(4,0,[]),(5,0,[4]),(6,0,[]),(7,0,[]),(8,0,[])] rfl (by decide) (by decide) ?_
        simp only[go_sem,E,F,t4,t8,t9,t10,b]
        refine zn ?_<;>(simp only[go_sem,t8,t10]<;>try rfl)
       ·have f6:(y.2 != 0)=true:=by simpa using H
        rw[if_neg H]
        simp only[go_sem,E,F,f6,t4,t8,t9,t10,b]
        refine zL rfl [] 0 [(0,0,[]),(1,0,[]),(2,0,[]),(3,0,[]),(4,0,[]),(5,0,[4]),(6,0,[]),(7,0,[4]),(8,0,[])] rfl (by decide) (by decide) ?_
        simp only[go_sem,E,F,t4,t8,t9,t10,b]
        refine zn ?_<;>(simp only[go_sem,t8,t10]<;>try rfl)
    ·have g4:z3.1.1<0:=by simpa using q7
     rw[if_pos ⟨g3,g4⟩]
     simp only[go_sem,b,ι,q6,q7,qt]
     refine zg (c40 _) ?_
     rintro _ h12 ⟨rfl,e12⟩
     rw[e12]
     clear e12 h12
     simp only[go_sem,b,ι]
     obtain⟨z4,hz4⟩:∃z4:qx × Int,z4=((0,1),z3.2):=⟨_,rfl⟩
     obtain⟨hK,eK⟩:∃hK,hK=hC.set u.length (.box 210 [i64 0,i64 1,i64 z3.2]):=⟨_,rfl⟩
     have pK:Pre u hK:=by rw[eK];exact pC.set (zo _) rfl
     have aK0:hK[u.length]? =some (.box 210 (xf z4)):=by rw[eK,zm ι,hz4]
     have aK:∀M,(hK++M)[u.length]? =some (.box 210 (xf z4)):=λM=>ze aK0
     have fz4:jq z4.1:=by rw[hz4];exact⟨by simp[Fit],by simp[Fit]⟩
     rw[<-eK, <-hz4]
     clear eK
     refine zL rfl [.res] 1 [(1,0,[]),(2,0,[]),(0,0,[2]),(3,0,[]),(4,0,[]),(5,0,[])] rfl (by decide) (by decide) ?_
     simp only[go_sem,b,aK]
     refine zg (c40 _) ?_
     rintro _ ξ ⟨rfl,Y⟩
     rw[Y]
     clear Y ξ
     simp only[go_sem,b,aK]
     obtain⟨S,Z⟩:∃S,S=hK++[Ob.box 210 [i64 0,i64 1,i64 z4.2]]:=⟨_,rfl⟩
     have pD:Pre u S:=by rw[Z];exact pK.app (zD rfl)
     have U:S[u.length]? =some (.box 210 (xf z4)):=by rw[Z];exact aK _
     have Q:S[hK.length]? =some (.box 210 (xf ((0,1),z4.2))):=by rw[Z];exact zM rfl
     have lD:u.length<hK.length:=(zd.1 aK0).1
     rw[<-Z]
     clear Z
     by_cases g5:J>0/\z4.2=0
     ·have d5:decide (J>0)=true:=by simpa using g5.1
      have e5:(z4.2==0)=true:=by simpa using g5.2
      simp only[go_sem,t9,d5,e5,qt,b,U,Q]
      refine zg (c18 J 1 hn0f (by simp[Fit]) _) ?_
      rintro _ h21 ⟨rfl,e21⟩
      rw[e21]
      clear e21 h21
      obtain⟨mn,μ⟩:∃mn,mn=make J 1:=⟨_,rfl⟩
      rw[<-μ]
      have fmn:jq mn.1:=by rw[μ];exact Qz _ _
      simp only[go_sem]
      refine zg (qla _ hK.length ((0,1),z4.2) mn (ze Q)) ?_
      rintro _ ζ ⟨rfl,eE⟩
      obtain⟨dm,hdm⟩:∃dm,dm=jg ((0,1),z4.2) mn:=⟨_,rfl⟩
      rw[<-hdm] at eE
      have pE:Pre u ζ:=by rw[eE];exact(pD.app (zD rfl)).set (by omega) rfl
      have aE:ζ[u.length]? =some (.box 210 (xf z4)):=by rw[eE,zc (by omega)];exact ze U
      have bE:ζ[S.length]? =some (.box 24 [i64 mn.1.1,i64 mn.1.2]):=by
       have:=(zd.1 Q).1
       rw[eE,zc (by omega)];exact zM rfl
      have dE:ζ[hK.length]? =some (.box 210 (xf dm)):=by rw[eE];exact zm (ze Q)
      clear eE U Q
      simp only[go_sem,b,aE,bE]
      refine zg (c46 z4.1 mn.1 fz4 fmn _) ?_
      rintro _ h22 ⟨rfl,e22⟩
      rw[e22]
      clear e22 h22
      obtain⟨dv,hdv⟩:∃dv,dv=VY z4.1 mn.1:=⟨_,rfl⟩
      have hdv2:Zp Xna z4.1 mn.1=dv:=hdv.symm
      rw[hdv2]
      simp only[go_sem]
      refine zg (qla _ hK.length dm dv dE) ?_
      rintro _ hG ⟨rfl,eG⟩
      obtain⟨y,P⟩:∃y,y=jg dm dv:=⟨_,rfl⟩
      rw[<-P] at eG
      have pG:Pre u hG:=by rw[eG];exact pE.set (by omega) rfl
      have aG:hG[u.length]? =some (.box 210 (xf z4)):=by rw[eG,zc (by omega)];exact aE
      have dG:hG[hK.length]? =some (.box 210 (xf y)):=by rw[eG];exact zm dE
      clear eG aE bE dE
      have hE:V5 z4 J=if y.2=0 then⟨z4.1,J,y.1,0⟩ else⟨(0,0),J,(0,0),y.2⟩:=by
       unfold V5
       simp only[if_pos g5]
       rw[<-μ, <-hdm, <-hdv, <-P]
      obtain⟨M,hM,nM⟩:=pG
      have d:hG=h++ .box 30 (qg s a):: .box 24 [i64 0,i64 0]:: .box 24 [i64 0,i64 0]::(L1++(L2++M)):=by rw[hM,O];simp
      have E:∀D C,(h++ .box 30 (qg s a)::D::C::(L1++(L2++M)))[u.length]? =some (.box 210 (xf z4)):=λD C=>by rw[wQ (p1:= .box 24 [i64 0,i64 0]) (p2:= .box 24 [i64 0,i64 0]) N, <-d];exact aG
      have F:∀D C,(h++ .box 30 (qg s a)::D::C::(L1++(L2++M)))[hK.length]? =some (.box 210 (xf y)):=λD C=>by rw[wQ (p1:= .box 24 [i64 0,i64 0]) (p2:= .box 24 [i64 0,i64 0]) (by omega), <-d];exact dG
      rw[d]
      rw[hE]
      clear aG dG d
      by_cases H:y.2=0
      ·have f6:(y.2 != 0)=false:=by simpa using H
       rw[if_pos H]
       simp only[go_sem,E,F,f6,t4,t8,t9,t10,b]
       refine zL rfl [] 0 [(0,0,[]),(2,0,[]),(3,0,[]),(1,0,[]),(4,0,[]),(5,0,[4]),(6,0,[]),(7,0,[]),(8,0,[])] rfl (by decide) (by decide) ?_
       simp only[go_sem,E,F,t4,t8,t9,t10,b]
       refine zn ?_<;>(simp only[go_sem,t8,t10]<;>try rfl)
      ·have f6:(y.2 != 0)=true:=by simpa using H
       rw[if_neg H]
       simp only[go_sem,E,F,f6,t4,t8,t9,t10,b]
       refine zL rfl [] 0 [(0,0,[]),(1,0,[]),(2,0,[]),(3,0,[]),(4,0,[]),(5,0,[4]),(6,0,[]),(7,0,[4]),(8,0,[])] rfl (by decide) (by decide) ?_
       simp only[go_sem,E,F,t4,t8,t9,t10,b]
       refine zn ?_<;>(simp only[go_sem,t8,t10]<;>try rfl)
     ·obtain⟨y,P⟩:∃y:qx × Int,y=((0,1),z4.2):=⟨_,rfl⟩
      have hE:V5 z4 J=if y.2=0 then⟨z4.1,J,y.1,0⟩ else⟨(0,0),J,(0,0),y.2⟩:=by
       unfold V5
       simp only[if_neg g5]
       rw[P]
      rw[<-P] at Q
      by_cases g7:J>0
      ·have d5:decide (J>0)=true:=by simpa using g7
       have e5:(z4.2==0)=false:=by
        have:¬ z4.2=0:=λq=>g5 ⟨g7,q⟩
        simpa using this
       simp only[go_sem,t9,d5,e5,qt,b,U]
       obtain⟨M,hM,nM⟩:=pD
       have d:S=h++ .box 30 (qg s a):: .box 24 [i64 0,i64 0]:: .box 24 [i64 0,i64 0]::(L1++(L2++M)):=by rw[hM,O];simp
       have E:∀D C,(h++ .box 30 (qg s a)::D::C::(L1++(L2++M)))[u.length]? =some (.box 210 (xf z4)):=λD C=>by rw[wQ (p1:= .box 24 [i64 0,i64 0]) (p2:= .box 24 [i64 0,i64 0]) N, <-d];exact U
       have F:∀D C,(h++ .box 30 (qg s a)::D::C::(L1++(L2++M)))[hK.length]? =some (.box 210 (xf y)):=λD C=>by rw[wQ (p1:= .box 24 [i64 0,i64 0]) (p2:= .box 24 [i64 0,i64 0]) (by omega), <-d];exact Q
       rw[d]
       rw[hE]
       clear U Q d
       by_cases H:y.2=0
       ·have f6:(y.2 != 0)=false:=by simpa using H
        rw[if_pos H]
        simp only[go_sem,E,F,f6,t4,t8,t9,t10,b]
        refine zL rfl [] 0 [(0,0,[]),(2,0,[]),(3,0,[]),(1,0,[]),(4,0,[]),(5,0,[4]),(6,0,[]),(7,0,[]),(8,0,[])] rfl (by decide) (by decide) ?_
        simp only[go_sem,E,F,t4,t8,t9,t10,b]
        refine zn ?_<;>(simp only[go_sem,t8,t10]<;>try rfl)
       ·have f6:(y.2 != 0)=true:=by simpa using H
        rw[if_neg H]
        simp only[go_sem,E,F,f6,t4,t8,t9,t10,b]
        refine zL rfl [] 0 [(0,0,[]),(1,0,[]),(2,0,[]),(3,0,[]),(4,0,[]),(5,0,[4]),(6,0,[]),(7,0,[4]),(8,0,[])] rfl (by decide) (by decide) ?_
        simp only[go_sem,E,F,t4,t8,t9,t10,b]
        refine zn ?_<;>(simp only[go_sem,t8,t10]<;>try rfl)
      ·have d5:decide (J>0)=false:=by simpa using g7
       simp only[go_sem,t9,d5,qt,b]
       obtain⟨M,hM,nM⟩:=pD
       have d:S=h++ .box 30 (qg s a):: .box 24 [i64 0,i64 0]:: .box 24 [i64 0,i64 0]::(L1++(L2++M)):=by rw[hM,O];simp
       have E:∀D C,(h++ .box 30 (qg s a)::D::C::(L1++(L2++M)))[u.length]? =some (.box 210 (xf z4)):=λD C=>by rw[wQ (p1:= .box 24 [i64 0,i64 0]) (p2:= .box 24 [i64 0,i64 0]) N, <-d];exact U
       have F:∀D C,(h++ .box 30 (qg s a)::D::C::(L1++(L2++M)))[hK.length]? =some (.box 210 (xf y)):=λD C=>by rw[wQ (p1:= .box 24 [i64 0,i64 0]) (p2:= .box 24 [i64 0,i64 0]) (by omega), <-d];exact Q
       rw[d]
       rw[hE]
       clear U Q d
       by_cases H:y.2=0
       ·have f6:(y.2 != 0)=false:=by simpa using H
        rw[if_pos H]
        simp only[go_sem,E,F,f6,t4,t8,t9,t10,b]
        refine zL rfl [] 0 [(0,0,[]),(2,0,[]),(3,0,[]),(1,0,[]),(4,0,[]),(5,0,[4]),(6,0,[]),(7,0,[]),(8,0,[])] rfl (by decide) (by decide) ?_
        simp only[go_sem,E,F,t4,t8,t9,t10,b]
        refine zn ?_<;>(simp only[go_sem,t8,t10]<;>try rfl)
       ·have f6:(y.2 != 0)=true:=by simpa using H
        rw[if_neg H]
        simp only[go_sem,E,F,f6,t4,t8,t9,t10,b]
        refine zL rfl [] 0 [(0,0,[]),(1,0,[]),(2,0,[]),(3,0,[]),(4,0,[]),(5,0,[4]),(6,0,[]),(7,0,[4]),(8,0,[])] rfl (by decide) (by decide) ?_
        simp only[go_sem,E,F,t4,t8,t9,t10,b]
        refine zn ?_<;>(simp only[go_sem,t8,t10]<;>try rfl)
