import Derived.Test.YtigdlmpjijhpaaaGreatBA
import Derived.Test.YtigdlmpjijhpaaaGreatB29
set_option linter.all false
namespace Go.Proofs.YtigdlmpjijhpaaaGreat.Ax
open Go Go.Proofs
set_option maxRecDepth 100000
abbrev qZb(v:PerfV):AV:= .tup [rat v.earned,i64 v.eligible,rat v.perf,i64 v.err]
abbrev jY(z:qt × Int):List AV:=[i64 z.1.1,i64 z.1.2,i64 z.2]
theorem VMa(z v:qt × Int):(if z.2=0 then [i64 v.1.1,i64 v.1.2,i64 v.2] else [i64 z.1.1,i64 z.1.2,i64 z.2])=jY (jd z v):=by
 unfold jd
 split<;>rfl
theorem qba(h:List Ob)(j:Nat)(z v:qt × Int)(a:h[j]? =some (.box 210 (jY z))):
  ACalls Tryz.prog 127 [.ptr j 0,rat v.1,i64 v.2] h λr h'=>r= .tup []/\h'=h.set j (.box 210 (jY (jd z v))):=
 (c44 h j z.1.1 z.1.2 z.2 v.1 v.2 a).mono λr h' ⟨b,c⟩=>⟨b,by rw[c,VMa]⟩
theorem VNa{l:List Ev}{g:Seg}{A R:List Ev}{x:Ev}(d:l=A++x::R)(b:∀e∈A,ZF g.id e=false)(a:ZF g.id x=true):ZI l g=x:=by
 unfold ZI
 rw[d,List.find?_append,List.find?_eq_none.2 (λe c=>by rw[b e c];simp)]
 simp[a]
theorem kBa{s:Setup}{l:List Ev}{w:Int}(f:qv s=true){g:Seg}(c:g∈(qF s l w).1)(h:g.kind=1):∃e∈l,ZF g.id e=true:=by
 obtain⟨e,⟨d,i,j⟩,b⟩:=(JG (l:=l) (w:=w) f).2 g c
 refine⟨e,d,?_⟩
 have a:e.kind=3:=by
  have:=b.2.1
  rw[h] at this
  unfold XD at this
  split at this
  ·assumption
  ·split at this
   ·cases this
   ·split at this<;>cases this
 simp[ZF,a,b.1]
theorem XDa{s:Setup}{w:Int}{l:List Ev}:(KW s w l).length<=l.length:=by
 have:=qo (λe=> !QX s w e) (qu l)
 rw[j6] at this
 exact this
theorem Wv{s:Setup}{l:List Ev}{w:Int}:(qF s l w).1.length<=3*l.length+1:=by
 have c:=j6 l
 have b:szT (goP s w (qu l))<=szT ⟨none,[],[]⟩+3*(qu l).length:=v4a (qu l)
 have a:szT ⟨none,[],[]⟩=0:=rfl
 have d:=KN (s:=s) (t:=goP s w (qu l)) (at_:=32054400)
 unfold qF
 split
 ·simp only[szT] at d b a⊢
  omega
 ·simp
theorem Qka(s:Setup)(e:Ev):jo (vl s e).1:=by
 have d:∀c,jo (ZH s e c).1:=λc=>by
  unfold ZH
  simp only
  exact zla (f:=Ji) (λa b=>KE jJa a b) _ _ _
 unfold vl
 split
 ·split
  ·exact Qq
  ·split
   ·exact d _
   ·exact Qq
 ·exact Qq
def q0b(c e:qt × Int)(G:List qt)(d:Int):PerfV:=
 let b:=if c.2=0 then jd c (ZO (yS G).1 e.1) else c
 let a:=if b.2=0/\b.1.1<0 then((0,1),b.2) else b
 let done:=if d>0/\a.2=0 then jd (jd ((0,1),a.2) (make d 1)) (VI a.1 (make d 1).1) else((0,1),a.2)
 if done.2=0 then⟨a.1,d,done.1,0⟩ else⟨(0,0),d,(0,0),done.2⟩
def VO(a:qt × Int)(b:Int):PerfV:=
 if(if b>0/\a.2=0 then jd (jd ((0,1),a.2) (make b 1)) (VI a.1 (make b 1).1) else((0,1),a.2)).2=0
 then⟨a.1,b,(if b>0/\a.2=0 then jd (jd ((0,1),a.2) (make b 1)) (VI a.1 (make b 1).1) else((0,1),a.2)).1,0⟩
 else⟨(0,0),b,(0,0),(if b>0/\a.2=0 then jd (jd ((0,1),a.2) (make b 1)) (VI a.1 (make b 1).1) else((0,1),a.2)).2⟩
theorem VOa(a b:qt × Int)(G:List qt)(c:Int):q0b a b G c=VO (if(if a.2=0 then jd a (ZO (yS G).1 b.1) else a).2=0/\(if a.2=0 then jd a (ZO (yS G).1 b.1) else a).1.1<0 then((0,1),(if a.2=0 then jd a (ZO (yS G).1 b.1) else a).2) else(if a.2=0 then jd a (ZO (yS G).1 b.1) else a)) c:=rfl
theorem XEa:∀(l:List Seg) (z:Int),Fit z->Fit (l.foldl (λn g=>wr (n+wr (g.to_ - g.from_))) z)
 | [],_,h=>h
 | _::l,_,_=>XEa l _ (ku _)
theorem wD{h R:List Ob}{b c d p1 p2:Ob}{i:Nat}(hi:h.length+3<=i):(h++b::c::d::R)[i]? =(h++b::p1::p2::R)[i]? :=by
 rw[zQ (by omega),zQ (by omega)]
 obtain⟨r,a⟩:∃r,i - h.length=r+3:=⟨i - h.length - 3,by omega⟩
 rw[a]
 rfl
set_option maxHeartbeats 8000000 in
theorem c15(h:List Ob)(s:Setup)(a:SA)(k:SIn h s a)(f:SFit s)(x:AV)(l:List Ev)(w wk:Int)(hx:SlOf h x 11 (l.map evC))(hl:l.length<262144):
  ACalls Tryz.prog 58 [je s a,x,i64 w,i64 wk] h λr h'=>r=qZb (kE s l w wk)/\h'=h:=by
 refine zj Tryz.f58 [.cell 8 24,.tmp 9,.cell 10 24,.tmp 11] 178 rfl rfl rfl rfl rfl rfl (by decide) (⟨_,_,⟨rfl,rfl⟩,.refl⟩) λB=>?_
 simp only[go_sem,k.w.one,k.e.one,k.c.one,k.g.one,k.r.one,k.t.one]
 refine zg (c16 _ s a (k.app _) f) ?_
 rintro _ h1 ⟨rfl,e2⟩
 subst e2
 cases q1:qv s
 ·have hp:kE s l w wk=⟨(0,1),0,(0,1),0⟩:=by simp[kE,q1]
  rw[hp]
  simp only[go_sem,q1,Bool.not_false]
  refine zg (c40 _) ?_
  rintro _ h1 ⟨rfl,e2⟩
  subst e2
  simp only[go_sem]
  refine zg (c40 _) ?_
  rintro _ h1 ⟨rfl,e2⟩
  subst e2
  simp only[go_sem]
  refine zm ?_<;>(simp only[go_sem]<;>try rfl)
 have hp:kE s l w wk=kka s (KW s w l) (qF s (KW s w l) w).1 wk:=by simp[kE,q1]
 obtain⟨ev,hev⟩:∃ev,ev=KW s w l:=⟨_,rfl⟩
 obtain⟨I,hsg⟩:∃I,I=(qF s ev w).1:=⟨_,rfl⟩
 rw[<-hev, <-hsg] at hp
 have hevl:ev.length<262144:=by rw[hev];exact Nat.lt_of_le_of_lt XDa hl
 have hsgl:I.length<1048576:=by have:=Wv (s:=s) (l:=ev) (w:=w);rw[hsg];omega
 have kk:∀M,SIn (h++M) s a:=λM=>k.app M
 simp only[go_sem,q1,Bool.not_true,(kk _).w.one,(kk _).e.one,(kk _).c.one,(kk _).g.one,(kk _).r.one,(kk _).t.one]
 refine zg (c41 _ s a (kk _) x l w (hx.app _) (by omega)) ?_
 rintro xe h1 ⟨L1,rfl,n1,ne⟩
 rw[<-hev] at ne
 simp only[go_sem,(kk _).w.one,(kk _).e.one,(kk _).c.one,(kk _).g.one,(kk _).r.one,(kk _).t.one]
 have he1:=ne _ rfl
 simp only[zp,List.cons_append,List.nil_append] at he1
 refine zg (c21 _ s a (kk _) f xe ev w he1 (by omega)) ?_
 rintro _ h1 ⟨L2,y1,z1,rfl,n2,rfl,ny,nz⟩
 rw[<-hsg] at ny
 simp only[go_sem]
 refine zg (c40 _) ?_
 rintro _ h1 ⟨rfl,e2⟩
 subst e2
 obtain⟨u,N⟩:∃u,u=h++ .box 30 (qd s a):: .box 24 [i64 0,i64 0]:: .box 24 [i64 0,i64 0]::(L1++L2):=⟨_,rfl⟩
 have hp5:Pre h u:=⟨_,N,zr rfl (zr rfl (zr rfl (n1.app n2)))⟩
 have b0:u[h.length]? =some (.box 30 (qd s a)):=by rw[N];exact zM rfl
 have b1:u[h.length+1]? =some (.box 24 [i64 0,i64 0]):=by rw[N];exact zK (k:=1) rfl
 have b2:u[h.length+2]? =some (.box 24 [i64 0,i64 0]):=by rw[N];exact zK (k:=2) rfl
 have k5:SIn u s a:=by rw[N];exact k.app _
 have he5:SlOf u xe 11 (ev.map evC):=by
  have:=he1.app L2
  rw[N]
  simpa only[zp,List.cons_append,List.nil_append] using this
 have hy5:SlOf u y1 5 (I.map kG):=by
  have:=ny _ rfl
  rw[N]
  simpa only[zp,List.cons_append,List.nil_append] using this
 have O:h.length+3<=u.length:=by rw[N];simp
 have hcat:h++ .box 30 (qd s a):: .box 24 [AV.v (Value.int IntKind.i64 0),AV.v (Value.int IntKind.i64 0)]:: .box 24 [AV.v (Value.int IntKind.i64 0),AV.v (Value.int IntKind.i64 0)]::(L1++(L2++[Ob.box 210 [i64 0,i64 1,AV.v (Value.int IntKind.i64 0)]]))=u++[Ob.box 210 (jY ((0,1),0))]:=by rw[N];simp
 have hl5:h.length+(L1.length+L2.length+1+1+1)=u.length:=by rw[N];simp
 have hy51:=(hy5.app [Ob.box 210 (jY ((0,1),0))]).rows
 rw[<-hcat] at hy51
 simp only[go_sem,hy51,zb]
 rw[hcat]
 obtain⟨gl,ω⟩:∃gl:List Seg->List qt,gl=λq=>(q.filter (xA wk)).map λg=>(vl s (ZI ev g)).1:=⟨_,rfl⟩
 obtain⟨al,hal⟩:∃al:List Seg->qt × Int,al=λq=>(q.filter (xA wk)).foldl (λz g=>jd z ((0,1),(vl s (ZI ev g)).2)) ((0,1),0):=⟨_,rfl⟩
 obtain⟨el,hel⟩:∃el:List Seg->Int,el=λq=>(q.filter (xA wk)).foldl (λn g=>wr (n+wr (g.to_ - g.from_))) 0:=⟨_,rfl⟩
 have gll:∀q,(gl q).length<=q.length:=λq=>by
  rw[ω]
  simp only[zb]
  exact qo _ _
 refine zP (by decide) (λm T h'=>∃j:Nat,j<=I.length/\Pre u h'/\h'[u.length]? =some (.box 210 (jY (al (I.take j))))/\OwnS u h' 24 2 (T 16) ((gl (I.take j)).map jP)/\T 3=i64 wk/\T 4= .ptr h.length 0/\T 8= .ptr (h.length+1) 0/\T 9=i64 (el (I.take j))/\T 10= .ptr (h.length+2) 0/\T 12=xe/\T 15= .ptr u.length 0/\T 46=y1/\T 47=i64 I.length/\T 48=i64 j/\m=I.length - j) I.length
  ⟨0,by omega,Pre.refl.app (zG rfl),by rw[zM rfl,hal];rfl,.inl ⟨by simp only[go_sem],by rw[ω];rfl⟩,by simp only[go_sem],by simp only[go_sem],by simp only[go_sem],by(simp only[go_sem]<;>rw[hel]<;>rfl),by simp only[go_sem],by simp only[go_sem],by(simp only[go_sem]<;>rw[N]<;>simp),by simp only[go_sem],by simp only[go_sem],by(simp only[go_sem]<;>rfl),rfl⟩ ?_
 rintro m T h' ⟨j,hj,V,W,ho,t3,t4,t8,t9,t10,Y,b,t46,t47,ι,rfl⟩
 simp only[go_sem,t47,ι]
 refine ways (λe=>?_) (λe=>?_)
 ·have hlt:=dlt e
  have hy':=V.sl hy5
  have he':=V.sl he5
  have k':=V.sin k5
  have hee:=hy'.at (i:=j) (by simpa using hlt)
  have υ:(I.map kG)[j]? =some (kG I[j]):=by rw[zx,zi hlt];rfl
  have hkl:(j:Int)<I.length:=by omega
  have htk:=zI hlt
  have hmem:I[j]∈I:=zD hlt
  obtain⟨g,hg⟩:∃g,g=I[j]:=⟨_,rfl⟩
  rw[<-hg] at υ htk hmem
  have hA:List.length (kG g)=5:=rfl
  have skip:xA wk g=false->al (I.take (j+1))=al (I.take j)/\gl (I.take (j+1))=gl (I.take j)/\el (I.take (j+1))=el (I.take j):=λq=>by
   rw[<-htk,hal,ω,hel]
   simp[q8,q]
  cases q2:g.kind != 1
  ·cases q3:yJ g.from_ != wk
   ·have hk1:g.kind=1:=by simpa using q2
    have hw1:yJ g.from_=wk:=by simpa using q3
    have hyes:xA wk g=true:=by simp[xA,hk1,hw1]
    have step:al (I.take (j+1))=jd (al (I.take j)) ((0,1),(vl s (ZI ev g)).2)/\gl (I.take (j+1))=gl (I.take j)++[(vl s (ZI ev g)).1]/\el (I.take (j+1))=wr (el (I.take j)+wr (g.to_ - g.from_)):=by
     rw[<-htk,hal,ω,hel]
     simp[q8,hyes,qY]
    have hex:∃e∈ev,ZF g.id e=true:=kBa (w:=w) q1 (by rw[<-hsg];exact hmem) hk1
    rcases JM (ZF g.id) ev with⟨_,hno⟩|⟨A,tk,R,hAR,hix,htk1,htk2⟩
    ·obtain⟨e,he,hi⟩:=hex
     rw[hno e he] at hi;cases hi
    have htask:=VNa hAR htk2 htk1
    have hAl:A.length<ev.length:=by rw[hAR];simp
    have ρ:(ev.map evC)[A.length]? =some (evC tk):=j9 (by rw[hAR];simp)
    have heeT:eOf h' xe=some 11:=he'.at (i:=A.length) (by simpa using hAl)
    have hklT:(A.length:Int)<(ev.length:Int):=by omega
    have hb53:∀M,(h'++(.box 146 (kG g)::M))[h'.length]? =some (.box 146 (kG g)):=λM=>by rw[zM rfl];rfl
    simp only[go_sem,t3,t46,ι,hee,hy'.rows,υ,hkl,zb,Int.toNat_natCast,zh,q2,q3,qD]
    refine zg (c17 g.from_ _) ?_
    rintro _ h4 ⟨rfl,e4⟩
    subst e4
    simp only[go_sem,t3,t9,Y,ι,q3]
    refine zg (c42 _ xe 125 [.ptr h'.length 0] (ev.map evC) (λr=>ZF g.id (Wm r)) (by rw[zb];omega) (λr hr=>by obtain⟨p,_,rfl⟩:=zw.1 hr;rfl) (he'.app _) (λr hr M=>by
     obtain⟨p,_,rfl⟩:=zw.1 hr
     exact c43 _ h'.length p g (by rw[zp];exact hb53 _))) ?_
    rintro _ h4 ⟨rfl,e4⟩
    subst e4
    rw[hix]
    have hb30:∀M,(h'++M)[h.length]? =some (.box 30 (qd s a)):=λM=>by
     obtain⟨L,rfl,_⟩:=V
     rw[zp];exact zf b0
    have kM:∀M,SIn (h'++M) s a:=λM=>k'.app M
    have eT:∀M,eOf (h'++M) xe=some 11:=λM=>(he'.app M).at (i:=A.length) (by simpa using hAl)
    have rT:∀M,z6 (h'++M) xe=some (ev.map evC):=λM=>(he'.app M).rows
    have oM:∀M,OwnS u (h'++M) 24 2 (T 16) ((gl (I.take j)).map jP):=λM=>ho.app M
    have bxM:∀M,(h'++M)[u.length]? =some (.box 210 (jY (al (I.take j)))):=λM=>zf W
    obtain⟨gp,hgp⟩:∃gp,gp=vl s tk:=⟨_,rfl⟩
    rw[htask, <-hgp] at step
    obtain⟨s1,s2,s3⟩:=step
    have hcap:((gl (I.take j)).length+1)*17<=140737488355328:=by
     have:=gll (I.take j)
     rw[qa] at this
     omega
    simp only[go_sem]
    refine zV rfl [.res] 1 [(1,0,[]),(2,0,[]),(0,0,[]),(3,0,[]),(4,0,[]),(5,0,[]),(6,0,[]),(7,0,[]),(8,0,[]),(9,0,[]),(10,0,[]),(11,0,[])] rfl (by decide) (by decide) ?_
    simp only[go_sem,t4,Y,hb30,eT,rT,ρ,hklT,zb,Int.toNat_natCast,zh,(kM _).w.one,(kM _).e.one,(kM _).c.one,(kM _).g.one,(kM _).r.one,(kM _).t.one]
    refine zg (c22 _ s a (kM _) f tk) ?_
    rintro _ h4 ⟨rfl,e4⟩
    subst e4
    rw[<-hgp]
    rcases ho with⟨χ,hnil⟩|⟨id,st,u1,χ,u3⟩
    ·simp only[go_sem,χ,t4,Y,hb30,eT,rT,ρ,hklT,zb,Int.toNat_natCast,zh]
     refine zg (c40 _) ?_
     rintro _ h4 ⟨rfl,e4⟩
     subst e4
     simp only[go_sem,b]
     refine zg (qba _ u.length (al (I.take j)) ((0,1),gp.2) (bxM _)) ?_
     rintro _ h4 ⟨rfl,rfl⟩
     simp only[go_sem,ι]
     have hlt5:u.length<h'.length:=(zd.1 W).1
     refine⟨I.length - (j+1),by omega,j+1,by omega,(V.app (zr rfl (zr rfl (zr rfl (zG rfl))))).set (zn _) rfl,by rw[zq (bxM _),s1],.inr ⟨h'.length+3,0,by omega,rfl,?_⟩,t3,t4,t8,by rw[s3],t10,Y,b,t46,t47,qm (by omega) rfl,rfl⟩
     rw[zc (by omega),zK (k:=3) rfl,s2,zy,hnil]
     rfl
    ·have hgM:∀M,(h'++M)[id]? =some (.row 24 2 ((gl (I.take j)).map jP) st):=λM=>zf u3
     simp only[go_sem,χ,t4,Y,hgM,hcap,hb30,eT,rT,ρ,hklT,zb,Int.toNat_natCast,zh]
     refine zg (c40 _) ?_
     rintro _ h4 ⟨rfl,e4⟩
     subst e4
     have hne:id≠u.length:=λq=>by rw[q,W] at u3;cases u3
     have bxS:∀M o,((h'++M).set id o)[u.length]? =some (.box 210 (jY (al (I.take j)))):=λM o=>by rw[zc hne];exact bxM _
     simp only[go_sem,b]
     refine zg (qba _ u.length (al (I.take j)) ((0,1),gp.2) (bxS _ _)) ?_
     rintro _ h4 ⟨rfl,rfl⟩
     simp only[go_sem,ι]
     refine⟨I.length - (j+1),by omega,j+1,by omega,((V.app (zr rfl (zr rfl (zG rfl)))).set u1 rfl).set (zn _) rfl,by rw[zq (bxS _ _),s1],.inr ⟨id,st+1,u1,rfl,?_⟩,t3,t4,t8,by rw[s3],t10,Y,b,t46,t47,qm (by omega) rfl,rfl⟩
     rw[zc (Ne.symm hne),zq (hgM _),s2,zy]
     rfl
   ·simp only[go_sem,t3,t46,ι,hee,hy'.rows,υ,hkl,zb,Int.toNat_natCast,zh,q2,q3,qD]
    refine zg (c17 g.from_ _) ?_
    rintro _ h4 ⟨rfl,e4⟩
    subst e4
    simp only[go_sem,t3,ι,q3]
    have sk:xA wk g=false:=by
     unfold xA
     have:(yJ g.from_==wk)=false:=by simpa using q3
     rw[this,Bool.and_false]
    exact⟨I.length - (j+1),by omega,j+1,by omega,V.app (zG rfl),by rw[(skip sk).1];exact zf W,by rw[(skip sk).2.1];exact ho.app _,t4,t8,by rw[(skip sk).2.2];exact t9,t10,Y,b,t46,t47,qm (by omega) rfl,rfl⟩
  ·simp only[go_sem,t46,ι,hee,hy'.rows,υ,hkl,zb,Int.toNat_natCast,zh,q2,qD]
   have sk:xA wk g=false:=by
    unfold xA
    have:(g.kind==1)=false:=by simpa using q2
    rw[this,Bool.false_and]
   exact⟨I.length - (j+1),by omega,j+1,by omega,V.app (zG rfl),by rw[(skip sk).1];exact zf W,by rw[(skip sk).2.1];exact ho.app _,t3,t4,t8,by rw[(skip sk).2.2];exact t9,t10,Y,b,t47,qm (by omega) rfl,rfl⟩
 ·have hge:=xb e
  have hj2:j=I.length:=by omega
  subst hj2
  rw[zZ] at W ho t9
  obtain⟨z0,hz0⟩:∃z0,z0=al I:=⟨_,rfl⟩
  obtain⟨G,hG⟩:∃G,G=gl I:=⟨_,rfl⟩
  obtain⟨J,hn0⟩:∃J,J=el I:=⟨_,rfl⟩
  rw[<-hz0] at W
  rw[<-hG] at ho
  rw[<-hn0] at t9
  have hGf:∀p∈G,jo p:=λp hp=>by
   rw[hG,ω] at hp
   obtain⟨q,_,rfl⟩:=zw.1 hp
   exact Qka _ _
  have hGl:G.length<1099511627776:=by have:=gll I;rw[hG];omega
  have hGo:=ho.rows
  obtain⟨xg,hxg⟩:∃xg,xg=T 16:=⟨_,rfl⟩
  rw[<-hxg] at hGo ho
  have χ:T 16=xg:=hxg.symm
  have hlt5:u.length<h'.length:=(zd.1 W).1
  simp only[go_sem,χ]
  refine zg (c23 _ xg G hGf hGl hGo) ?_
  rintro _ h4 ⟨rfl,e4⟩
  subst e4
  simp only[go_sem,b]
  refine zg (qba _ u.length z0 (yS G) W) ?_
  rintro _ h6 ⟨rfl,e6⟩
  obtain⟨z1,hz1⟩:∃z1,z1=jd z0 (yS G):=⟨_,rfl⟩
  rw[<-hz1] at e6
  have p6:Pre u h6:=by rw[e6];exact V.set (zn _) rfl
  have l6:h6.length=h4.length:=by rw[e6];simp
  have a6:∀M,(h6++M)[u.length]? =some (.box 210 (jY z1)):=λM=>zf (by rw[e6];exact zq W)
  have o6:OwnS u h6 24 2 xg (G.map jP):=by rw[e6];exact ho.set_box W _
  clear e6 W ho hGo
  simp only[go_sem]
  refine zV rfl [.res] 1 [(1,0,[]),(2,0,[]),(0,0,[2]),(3,0,[]),(4,0,[]),(5,0,[])] rfl (by decide) (by decide) ?_
  simp only[go_sem,b,a6]
  refine zg (c40 _) ?_
  rintro _ h7 ⟨rfl,e7⟩
  subst e7
  simp only[go_sem,b,a6]
  obtain⟨h7,e7⟩:∃h7,h7=h6++[Ob.box 210 [i64 0,i64 1,i64 z1.2]]:=⟨_,rfl⟩
  have p7:Pre u h7:=by rw[e7];exact p6.app (zG rfl)
  have a7:h7[u.length]? =some (.box 210 (jY z1)):=by rw[e7];exact a6 _
  have d7:h7[h6.length]? =some (.box 210 (jY ((0,1),z1.2))):=by rw[e7];exact zM rfl
  have o7:OwnS u h7 24 2 xg (G.map jP):=by rw[e7];exact o6.app _
  have l76:u.length<h6.length:=by omega
  rw[<-e7]
  clear e7
  have b7:∀M,(h7++M)[h.length]? =some (.box 30 (qd s a)):=λM=>by
   obtain⟨L,rfl,_⟩:=p7
   rw[zp];exact zf b0
  have b70:h7[h.length]? =some (.box 30 (qd s a)):=by simpa using b7 []
  refine zV rfl [] 0 [(0,0,[]),(2,0,[]),(3,0,[]),(1,0,[]),(4,0,[1]),(5,0,[]),(6,0,[]),(7,0,[]),(8,0,[]),(9,0,[])] rfl (by decide) (by decide) ?_
  simp only[go_sem,t4,Y,t3,b7,b70]
  refine zg (c45 _ xe ev wk (p7.sl he5) (by omega)) ?_
  rintro _ h8 ⟨rfl,e8⟩
  subst e8
  simp only[go_sem,t4,Y,t3,b7,b70]
  refine zg (c18 (wr (s.fault*(vE ev wk:Int))) 1 (ku _) (by simp[Fit]) _) ?_
  rintro _ h8 ⟨rfl,e8⟩
  subst e8
  obtain⟨mk,hmk⟩:∃mk,mk=make (wr (s.fault*(vE ev wk:Int))) 1:=⟨_,rfl⟩
  rw[<-hmk]
  simp only[go_sem,t4,Y,t3,b7,b70]
  refine zg (qba _ h6.length ((0,1),z1.2) mk d7) ?_
  rintro _ h8 ⟨rfl,e8⟩
  obtain⟨K,ν⟩:∃K,K=jd ((0,1),z1.2) mk:=⟨_,rfl⟩
  rw[<-ν] at e8
  have p8:Pre u h8:=by rw[e8];exact p7.set (by omega) rfl
  have a8:h8[u.length]? =some (.box 210 (jY z1)):=by rw[e8,zc (by omega)];exact a7
  have d8:h8[h6.length]? =some (.box 210 (jY K)):=by rw[e8];exact zq d7
  have o8:OwnS u h8 24 2 xg (G.map jP):=by rw[e8];exact o7.set_box d7 _
  clear e8 o7 a7 d7
  simp only[go_sem,d8,b]
  refine zg (qba _ u.length z1 K a8) ?_
  rintro _ h9 ⟨rfl,e9⟩
  obtain⟨z2,hz2⟩:∃z2,z2=jd z1 K:=⟨_,rfl⟩
  rw[<-hz2] at e9
  have p9:Pre u h9:=by rw[e9];exact p8.set (zn _) rfl
  have a90:h9[u.length]? =some (.box 210 (jY z2)):=by rw[e9];exact zq a8
  have a9:∀M,(h9++M)[u.length]? =some (.box 210 (jY z2)):=λM=>zf a90
  have d9:h9[h6.length]? =some (.box 210 (jY K)):=by rw[e9,zc (by omega)];exact d8
  have o9:OwnS u h9 24 2 xg (G.map jP):=by rw[e9];exact o8.set_box a8 _
  clear e9 o8 a8 d8
  have hW:kE s l w wk=q0b z2 K G J:=by
   rw[hp,hz2,ν,hmk,hz1,hz0,hG,hn0,hal,ω,hel]
   rfl
  have hn0f:Fit J:=by rw[hn0,hel];exact XEa _ _ (by simp[Fit])
  rw[hW,VOa]
  clear hW
  have flost:jo K.1:=by rw[ν,hmk];unfold jd;split;exact Qg _ _;exact⟨by simp[Fit],by simp[Fit]⟩
  cases q5:z2.2==0
  ·have g2:¬ z2.2=0:=by simpa using q5
   rw[if_neg g2,if_neg (λq=>g2 q.1)]
   simp only[go_sem,b,a90,q5,qD]
   refine zV rfl [.res] 1 [(1,0,[]),(2,0,[]),(0,0,[2]),(3,0,[]),(4,0,[]),(5,0,[])] rfl (by decide) (by decide) ?_
   simp only[go_sem,b,a9]
   refine zg (c40 _) ?_
   rintro _ μ ⟨rfl,Z⟩
   rw[Z]
   clear Z μ
   simp only[go_sem,b,a9]
   obtain⟨S,X⟩:∃S,S=h9++[Ob.box 210 [i64 0,i64 1,i64 z2.2]]:=⟨_,rfl⟩
   have pD:Pre u S:=by rw[X];exact p9.app (zG rfl)
   have U:S[u.length]? =some (.box 210 (jY z2)):=by rw[X];exact a9 _
   have Q:S[h9.length]? =some (.box 210 (jY ((0,1),z2.2))):=by rw[X];exact zM rfl
   have lD:u.length<h9.length:=(zd.1 a90).1
   rw[<-X]
   clear X
   by_cases g5:J>0/\z2.2=0
   ·exact absurd g5.2 g2
   ·obtain⟨y,P⟩:∃y:qt × Int,y=((0,1),z2.2):=⟨_,rfl⟩
    have hE:VO z2 J=if y.2=0 then⟨z2.1,J,y.1,0⟩ else⟨(0,0),J,(0,0),y.2⟩:=by
     unfold VO
     simp only[if_neg g5]
     rw[P]
    rw[<-P] at Q
    by_cases g7:J>0
    ·have d5:decide (J>0)=true:=by simpa using g7
     have e5:(z2.2==0)=false:=by
      have:¬ z2.2=0:=λq=>g5 ⟨g7,q⟩
      simpa using this
     simp only[go_sem,t9,d5,e5,qD,b,U]
     obtain⟨M,hM,nM⟩:=pD
     have d:S=h++ .box 30 (qd s a):: .box 24 [i64 0,i64 0]:: .box 24 [i64 0,i64 0]::(L1++(L2++M)):=by rw[hM,N];simp
     have H:∀C D,(h++ .box 30 (qd s a)::C::D::(L1++(L2++M)))[u.length]? =some (.box 210 (jY z2)):=λC D=>by rw[wD (p1:= .box 24 [i64 0,i64 0]) (p2:= .box 24 [i64 0,i64 0]) O, <-d];exact U
     have E:∀C D,(h++ .box 30 (qd s a)::C::D::(L1++(L2++M)))[h9.length]? =some (.box 210 (jY y)):=λC D=>by rw[wD (p1:= .box 24 [i64 0,i64 0]) (p2:= .box 24 [i64 0,i64 0]) (by omega), <-d];exact Q
     rw[d]
     rw[hE]
     clear U Q d
     by_cases F:y.2=0
     ·have f6:(y.2 != 0)=false:=by simpa using F
      rw[if_pos F]
      simp only[go_sem,H,E,f6,t4,t8,t9,t10,b]
      refine zV rfl [] 0 [(0,0,[]),(2,0,[]),(3,0,[]),(1,0,[]),(4,0,[]),(5,0,[4]),(6,0,[]),(7,0,[]),(8,0,[])] rfl (by decide) (by decide) ?_
      simp only[go_sem,H,E,t4,t8,t9,t10,b]
      refine zm ?_<;>(simp only[go_sem,t8,t10]<;>try rfl)
     ·have f6:(y.2 != 0)=true:=by simpa using F
      rw[if_neg F]
      simp only[go_sem,H,E,f6,t4,t8,t9,t10,b]
      refine zV rfl [] 0 [(0,0,[]),(1,0,[]),(2,0,[]),(3,0,[]),(4,0,[]),(5,0,[4]),(6,0,[]),(7,0,[4]),(8,0,[])] rfl (by decide) (by decide) ?_
      simp only[go_sem,H,E,t4,t8,t9,t10,b]
      refine zm ?_<;>(simp only[go_sem,t8,t10]<;>try rfl)
    ·have d5:decide (J>0)=false:=by simpa using g7
     simp only[go_sem,t9,d5,qD,b]
     obtain⟨M,hM,nM⟩:=pD
     have d:S=h++ .box 30 (qd s a):: .box 24 [i64 0,i64 0]:: .box 24 [i64 0,i64 0]::(L1++(L2++M)):=by rw[hM,N];simp
     have H:∀C D,(h++ .box 30 (qd s a)::C::D::(L1++(L2++M)))[u.length]? =some (.box 210 (jY z2)):=λC D=>by rw[wD (p1:= .box 24 [i64 0,i64 0]) (p2:= .box 24 [i64 0,i64 0]) O, <-d];exact U
     have E:∀C D,(h++ .box 30 (qd s a)::C::D::(L1++(L2++M)))[h9.length]? =some (.box 210 (jY y)):=λC D=>by rw[wD (p1:= .box 24 [i64 0,i64 0]) (p2:= .box 24 [i64 0,i64 0]) (by omega), <-d];exact Q
     rw[d]
     rw[hE]
     clear U Q d
     by_cases F:y.2=0
     ·have f6:(y.2 != 0)=false:=by simpa using F
      rw[if_pos F]
      simp only[go_sem,H,E,f6,t4,t8,t9,t10,b]
      refine zV rfl [] 0 [(0,0,[]),(2,0,[]),(3,0,[]),(1,0,[]),(4,0,[]),(5,0,[4]),(6,0,[]),(7,0,[]),(8,0,[])] rfl (by decide) (by decide) ?_
      simp only[go_sem,H,E,t4,t8,t9,t10,b]
      refine zm ?_<;>(simp only[go_sem,t8,t10]<;>try rfl)
     ·have f6:(y.2 != 0)=true:=by simpa using F
      rw[if_neg F]
      simp only[go_sem,H,E,f6,t4,t8,t9,t10,b]
      refine zV rfl [] 0 [(0,0,[]),(1,0,[]),(2,0,[]),(3,0,[]),(4,0,[]),(5,0,[4]),(6,0,[]),(7,0,[4]),(8,0,[])] rfl (by decide) (by decide) ?_
      simp only[go_sem,H,E,t4,t8,t9,t10,b]
      refine zm ?_<;>(simp only[go_sem,t8,t10]<;>try rfl)
  ·have g2:z2.2=0:=by simpa using q5
   rw[if_pos g2]
   simp only[go_sem,b,χ,a90,q5,qD]
   refine zg (c23 _ xg G hGf hGl o9.rows) ?_
   rintro _ h10 ⟨rfl,e10⟩
   rw[e10]
   clear e10 h10
   have d9M:∀M,(h9++M)[h6.length]? =some (.box 210 (jY K)):=λM=>zf d9
   simp only[go_sem,d9,a9,d9M]
   refine zg (c19 (yS G).1 K.1 (yJa G) flost _) ?_
   rintro _ h10 ⟨rfl,e10⟩
   rw[e10]
   clear e10 h10
   have hsub:Ze K7a (yS G).1 K.1=ZO (yS G).1 K.1:=rfl
   rw[hsub]
   simp only[go_sem,b]
   refine zg (qba _ u.length z2 (ZO (yS G).1 K.1) (a9 _)) ?_
   rintro _ hC ⟨rfl,eC⟩
   obtain⟨z3,hz3⟩:∃z3,z3=jd z2 (ZO (yS G).1 K.1):=⟨_,rfl⟩
   rw[<-hz3] at eC⊢
   have pC:Pre u hC:=by rw[eC];exact(p9.app (zG rfl)).set (zn _) rfl
   have θ:hC[u.length]? =some (.box 210 (jY z3)):=by rw[eC];exact zq (a9 _)
   have aC:∀M,(hC++M)[u.length]? =some (.box 210 (jY z3)):=λM=>zf θ
   have fz3:jo z3.1:=by rw[hz3];unfold jd;rw[if_pos g2];exact KE _ _ _
   clear eC
   cases q6:z3.2==0
   ·have g3:¬ z3.2=0:=by simpa using q6
    rw[if_neg (λq=>g3 q.1)]
    simp only[go_sem,b,θ,q6,qD]
    refine zV rfl [.res] 1 [(1,0,[]),(2,0,[]),(0,0,[2]),(3,0,[]),(4,0,[]),(5,0,[])] rfl (by decide) (by decide) ?_
    simp only[go_sem,b,aC]
    refine zg (c40 _) ?_
    rintro _ μ ⟨rfl,Z⟩
    rw[Z]
    clear Z μ
    simp only[go_sem,b,aC]
    obtain⟨S,X⟩:∃S,S=hC++[Ob.box 210 [i64 0,i64 1,i64 z3.2]]:=⟨_,rfl⟩
    have pD:Pre u S:=by rw[X];exact pC.app (zG rfl)
    have U:S[u.length]? =some (.box 210 (jY z3)):=by rw[X];exact aC _
    have Q:S[hC.length]? =some (.box 210 (jY ((0,1),z3.2))):=by rw[X];exact zM rfl
    have lD:u.length<hC.length:=(zd.1 θ).1
    rw[<-X]
    clear X
    by_cases g5:J>0/\z3.2=0
    ·exact absurd g5.2 g3
    ·obtain⟨y,P⟩:∃y:qt × Int,y=((0,1),z3.2):=⟨_,rfl⟩
     have hE:VO z3 J=if y.2=0 then⟨z3.1,J,y.1,0⟩ else⟨(0,0),J,(0,0),y.2⟩:=by
      unfold VO
      simp only[if_neg g5]
      rw[P]
     rw[<-P] at Q
     by_cases g7:J>0
     ·have d5:decide (J>0)=true:=by simpa using g7
      have e5:(z3.2==0)=false:=by
       have:¬ z3.2=0:=λq=>g5 ⟨g7,q⟩
       simpa using this
      simp only[go_sem,t9,d5,e5,qD,b,U]
      obtain⟨M,hM,nM⟩:=pD
      have d:S=h++ .box 30 (qd s a):: .box 24 [i64 0,i64 0]:: .box 24 [i64 0,i64 0]::(L1++(L2++M)):=by rw[hM,N];simp
      have H:∀C D,(h++ .box 30 (qd s a)::C::D::(L1++(L2++M)))[u.length]? =some (.box 210 (jY z3)):=λC D=>by rw[wD (p1:= .box 24 [i64 0,i64 0]) (p2:= .box 24 [i64 0,i64 0]) O, <-d];exact U
      have E:∀C D,(h++ .box 30 (qd s a)::C::D::(L1++(L2++M)))[hC.length]? =some (.box 210 (jY y)):=λC D=>by rw[wD (p1:= .box 24 [i64 0,i64 0]) (p2:= .box 24 [i64 0,i64 0]) (by omega), <-d];exact Q
      rw[d]
      rw[hE]
      clear U Q d
      by_cases F:y.2=0
      ·have f6:(y.2 != 0)=false:=by simpa using F
       rw[if_pos F]
       simp only[go_sem,H,E,f6,t4,t8,t9,t10,b]
       refine zV rfl [] 0 [(0,0,[]),(2,0,[]),(3,0,[]),(1,0,[]),(4,0,[]),(5,0,[4]),(6,0,[]),(7,0,[]),(8,0,[])] rfl (by decide) (by decide) ?_
       simp only[go_sem,H,E,t4,t8,t9,t10,b]
       refine zm ?_<;>(simp only[go_sem,t8,t10]<;>try rfl)
      ·have f6:(y.2 != 0)=true:=by simpa using F
       rw[if_neg F]
       simp only[go_sem,H,E,f6,t4,t8,t9,t10,b]
       refine zV rfl [] 0 [(0,0,[]),(1,0,[]),(2,0,[]),(3,0,[]),(4,0,[]),(5,0,[4]),(6,0,[]),(7,0,[4]),(8,0,[])] rfl (by decide) (by decide) ?_
       simp only[go_sem,H,E,t4,t8,t9,t10,b]
       refine zm ?_<;>(simp only[go_sem,t8,t10]<;>try rfl)
     ·have d5:decide (J>0)=false:=by simpa using g7
      simp only[go_sem,t9,d5,qD,b]
      obtain⟨M,hM,nM⟩:=pD
      have d:S=h++ .box 30 (qd s a):: .box 24 [i64 0,i64 0]:: .box 24 [i64 0,i64 0]::(L1++(L2++M)):=by rw[hM,N];simp
      have H:∀C D,(h++ .box 30 (qd s a)::C::D::(L1++(L2++M)))[u.length]? =some (.box 210 (jY z3)):=λC D=>by rw[wD (p1:= .box 24 [i64 0,i64 0]) (p2:= .box 24 [i64 0,i64 0]) O, <-d];exact U
      have E:∀C D,(h++ .box 30 (qd s a)::C::D::(L1++(L2++M)))[hC.length]? =some (.box 210 (jY y)):=λC D=>by rw[wD (p1:= .box 24 [i64 0,i64 0]) (p2:= .box 24 [i64 0,i64 0]) (by omega), <-d];exact Q
      rw[d]
      rw[hE]
      clear U Q d
      by_cases F:y.2=0
      ·have f6:(y.2 != 0)=false:=by simpa using F
       rw[if_pos F]
       simp only[go_sem,H,E,f6,t4,t8,t9,t10,b]
       refine zV rfl [] 0 [(0,0,[]),(2,0,[]),(3,0,[]),(1,0,[]),(4,0,[]),(5,0,[4]),(6,0,[]),(7,0,[]),(8,0,[])] rfl (by decide) (by decide) ?_
       simp only[go_sem,H,E,t4,t8,t9,t10,b]
       refine zm ?_<;>(simp only[go_sem,t8,t10]<;>try rfl)
      ·have f6:(y.2 != 0)=true:=by simpa using F
       rw[if_neg F]
       simp only[go_sem,H,E,f6,t4,t8,t9,t10,b]
       refine zV rfl [] 0 [(0,0,[]),(1,0,[]),(2,0,[]),(3,0,[]),(4,0,[]),(5,0,[4]),(6,0,[]),(7,0,[4]),(8,0,[])] rfl (by decide) (by decide) ?_
       simp only[go_sem,H,E,t4,t8,t9,t10,b]
       refine zm ?_<;>(simp only[go_sem,t8,t10]<;>try rfl)
   ·have g3:z3.2=0:=by simpa using q6
    cases q7:decide (z3.1.1<0)
    ·have g4:¬ z3.1.1<0:=by simpa using q7
     rw[if_neg (λq=>g4 q.2)]
     simp only[go_sem,b,θ,q6,q7,qD]
     refine zV rfl [.res] 1 [(1,0,[]),(2,0,[]),(0,0,[2]),(3,0,[]),(4,0,[]),(5,0,[])] rfl (by decide) (by decide) ?_
     simp only[go_sem,b,aC]
     refine zg (c40 _) ?_
     rintro _ μ ⟨rfl,Z⟩
     rw[Z]
     clear Z μ
     simp only[go_sem,b,aC]
     obtain⟨S,X⟩:∃S,S=hC++[Ob.box 210 [i64 0,i64 1,i64 z3.2]]:=⟨_,rfl⟩
     have pD:Pre u S:=by rw[X];exact pC.app (zG rfl)
     have U:S[u.length]? =some (.box 210 (jY z3)):=by rw[X];exact aC _
     have Q:S[hC.length]? =some (.box 210 (jY ((0,1),z3.2))):=by rw[X];exact zM rfl
     have lD:u.length<hC.length:=(zd.1 θ).1
     rw[<-X]
     clear X
     by_cases g5:J>0/\z3.2=0
     ·have d5:decide (J>0)=true:=by simpa using g5.1
      have e5:(z3.2==0)=true:=by simpa using g5.2
      simp only[go_sem,t9,d5,e5,qD,b,U,Q]
      refine zg (c18 J 1 hn0f (by simp[Fit]) _) ?_
      rintro _ h21 ⟨rfl,e21⟩
      rw[e21]
      clear e21 h21
      obtain⟨mn,κ⟩:∃mn,mn=make J 1:=⟨_,rfl⟩
      rw[<-κ]
      have fmn:jo mn.1:=by rw[κ];exact Qg _ _
      simp only[go_sem]
      refine zg (qba _ hC.length ((0,1),z3.2) mn (zf Q)) ?_
      rintro _ ε ⟨rfl,eE⟩
      obtain⟨dm,hdm⟩:∃dm,dm=jd ((0,1),z3.2) mn:=⟨_,rfl⟩
      rw[<-hdm] at eE
      have pE:Pre u ε:=by rw[eE];exact(pD.app (zG rfl)).set (by omega) rfl
      have aE:ε[u.length]? =some (.box 210 (jY z3)):=by rw[eE,zc (by omega)];exact zf U
      have bE:ε[S.length]? =some (.box 24 [i64 mn.1.1,i64 mn.1.2]):=by
       have:=(zd.1 Q).1
       rw[eE,zc (by omega)];exact zM rfl
      have dE:ε[hC.length]? =some (.box 210 (jY dm)):=by rw[eE];exact zq (zf Q)
      clear eE U Q
      simp only[go_sem,b,aE,bE]
      refine zg (c46 z3.1 mn.1 fz3 fmn _) ?_
      rintro _ h22 ⟨rfl,e22⟩
      rw[e22]
      clear e22 h22
      obtain⟨dv,hdv⟩:∃dv,dv=VI z3.1 mn.1:=⟨_,rfl⟩
      have hdv2:Ze JQa z3.1 mn.1=dv:=hdv.symm
      rw[hdv2]
      simp only[go_sem]
      refine zg (qba _ hC.length dm dv dE) ?_
      rintro _ hG ⟨rfl,eG⟩
      obtain⟨y,P⟩:∃y,y=jd dm dv:=⟨_,rfl⟩
      rw[<-P] at eG
      have pG:Pre u hG:=by rw[eG];exact pE.set (by omega) rfl
      have aG:hG[u.length]? =some (.box 210 (jY z3)):=by rw[eG,zc (by omega)];exact aE
      have dG:hG[hC.length]? =some (.box 210 (jY y)):=by rw[eG];exact zq dE
      clear eG aE bE dE
      have hE:VO z3 J=if y.2=0 then⟨z3.1,J,y.1,0⟩ else⟨(0,0),J,(0,0),y.2⟩:=by
       unfold VO
       simp only[if_pos g5]
       rw[<-κ, <-hdm, <-hdv, <-P]
      obtain⟨M,hM,nM⟩:=pG
      have d:hG=h++ .box 30 (qd s a):: .box 24 [i64 0,i64 0]:: .box 24 [i64 0,i64 0]::(L1++(L2++M)):=by rw[hM,N];simp
      have H:∀C D,(h++ .box 30 (qd s a)::C::D::(L1++(L2++M)))[u.length]? =some (.box 210 (jY z3)):=λC D=>by rw[wD (p1:= .box 24 [i64 0,i64 0]) (p2:= .box 24 [i64 0,i64 0]) O, <-d];exact aG
      have E:∀C D,(h++ .box 30 (qd s a)::C::D::(L1++(L2++M)))[hC.length]? =some (.box 210 (jY y)):=λC D=>by rw[wD (p1:= .box 24 [i64 0,i64 0]) (p2:= .box 24 [i64 0,i64 0]) (by omega), <-d];exact dG
      rw[d]
      rw[hE]
      clear aG dG d
      by_cases F:y.2=0
      ·have f6:(y.2 != 0)=false:=by simpa using F
       rw[if_pos F]
       simp only[go_sem,H,E,f6,t4,t8,t9,t10,b]
       refine zV rfl [] 0 [(0,0,[]),(2,0,[]),(3,0,[]),(1,0,[]),(4,0,[]),(5,0,[4]),(6,0,[]),(7,0,[]),(8,0,[])] rfl (by decide) (by decide) ?_
       simp only[go_sem,H,E,t4,t8,t9,t10,b]
       refine zm ?_<;>(simp only[go_sem,t8,t10]<;>try rfl)
      ·have f6:(y.2 != 0)=true:=by simpa using F
       rw[if_neg F]
       simp only[go_sem,H,E,f6,t4,t8,t9,t10,b]
       refine zV rfl [] 0 [(0,0,[]),(1,0,[]),(2,0,[]),(3,0,[]),(4,0,[]),(5,0,[4]),(6,0,[]),(7,0,[4]),(8,0,[])] rfl (by decide) (by decide) ?_
       simp only[go_sem,H,E,t4,t8,t9,t10,b]
       refine zm ?_<;>(simp only[go_sem,t8,t10]<;>try rfl)
     ·obtain⟨y,P⟩:∃y:qt × Int,y=((0,1),z3.2):=⟨_,rfl⟩
      have hE:VO z3 J=if y.2=0 then⟨z3.1,J,y.1,0⟩ else⟨(0,0),J,(0,0),y.2⟩:=by
       unfold VO
       simp only[if_neg g5]
       rw[P]
      rw[<-P] at Q
      by_cases g7:J>0
      ·have d5:decide (J>0)=true:=by simpa using g7
       have e5:(z3.2==0)=false:=by
        have:¬ z3.2=0:=λq=>g5 ⟨g7,q⟩
        simpa using this
       simp only[go_sem,t9,d5,e5,qD,b,U]
       obtain⟨M,hM,nM⟩:=pD
       have d:S=h++ .box 30 (qd s a):: .box 24 [i64 0,i64 0]:: .box 24 [i64 0,i64 0]::(L1++(L2++M)):=by rw[hM,N];simp
       have H:∀C D,(h++ .box 30 (qd s a)::C::D::(L1++(L2++M)))[u.length]? =some (.box 210 (jY z3)):=λC D=>by rw[wD (p1:= .box 24 [i64 0,i64 0]) (p2:= .box 24 [i64 0,i64 0]) O, <-d];exact U
       have E:∀C D,(h++ .box 30 (qd s a)::C::D::(L1++(L2++M)))[hC.length]? =some (.box 210 (jY y)):=λC D=>by rw[wD (p1:= .box 24 [i64 0,i64 0]) (p2:= .box 24 [i64 0,i64 0]) (by omega), <-d];exact Q
       rw[d]
       rw[hE]
       clear U Q d
       by_cases F:y.2=0
       ·have f6:(y.2 != 0)=false:=by simpa using F
        rw[if_pos F]
        simp only[go_sem,H,E,f6,t4,t8,t9,t10,b]
        refine zV rfl [] 0 [(0,0,[]),(2,0,[]),(3,0,[]),(1,0,[]),(4,0,[]),(5,0,[4]),(6,0,[]),(7,0,[]),(8,0,[])] rfl (by decide) (by decide) ?_
        simp only[go_sem,H,E,t4,t8,t9,t10,b]
        refine zm ?_<;>(simp only[go_sem,t8,t10]<;>try rfl)
       ·have f6:(y.2 != 0)=true:=by simpa using F
        rw[if_neg F]
        simp only[go_sem,H,E,f6,t4,t8,t9,t10,b]
        refine zV rfl [] 0 [(0,0,[]),(1,0,[]),(2,0,[]),(3,0,[]),(4,0,[]),(5,0,[4]),(6,0,[]),(7,0,[4]),(8,0,[])] rfl (by decide) (by decide) ?_
        simp only[go_sem,H,E,t4,t8,t9,t10,b]
        refine zm ?_<;>(simp only[go_sem,t8,t10]<;>try rfl)
      ·have d5:decide (J>0)=false:=by simpa using g7
       simp only[go_sem,t9,d5,qD,b]
       obtain⟨M,hM,nM⟩:=pD
       have d:S=h++ .box 30 (qd s a):: .box 24 [i64 0,i64 0]:: .box 24 [i64 0,i64 0]::(L1++(L2++M)):=by rw[hM,N];simp
       have H:∀C D,(h++ .box 30 (qd s a)::C::D::(L1++(L2++M)))[u.length]? =some (.box 210 (jY z3)):=λC D=>by rw[wD (p1:= .box 24 [i64 0,i64 0]) (p2:= .box 24 [i64 0,i64 0]) O, <-d];exact U
       have E:∀C D,(h++ .box 30 (qd s a)::C::D::(L1++(L2++M)))[hC.length]? =some (.box 210 (jY y)):=λC D=>by rw[wD (p1:= .box 24 [i64 0,i64 0]) (p2:= .box 24 [i64 0,i64 0]) (by omega), <-d];exact Q
       rw[d]
       rw[hE]
       clear U Q d
       by_cases F:y.2=0
       ·have f6:(y.2 != 0)=false:=by simpa using F
        rw[if_pos F]
        simp only[go_sem,H,E,f6,t4,t8,t9,t10,b]
        refine zV rfl [] 0 [(0,0,[]),(2,0,[]),(3,0,[]),(1,0,[]),(4,0,[]),(5,0,[4]),(6,0,[]),(7,0,[]),(8,0,[])] rfl (by decide) (by decide) ?_
        simp only[go_sem,H,E,t4,t8,t9,t10,b]
        refine zm ?_<;>(simp only[go_sem,t8,t10]<;>try rfl)
       ·have f6:(y.2 != 0)=true:=by simpa using F
        rw[if_neg F]
        simp only[go_sem,H,E,f6,t4,t8,t9,t10,b]
        refine zV rfl [] 0 [(0,0,[]),(1,0,[]),(2,0,[]),(3,0,[]),(4,0,[]),(5,0,[4]),(6,0,[]),(7,0,[4]),(8,0,[])] rfl (by decide) (by decide) ?_
        simp only[go_sem,H,E,t4,t8,t9,t10,b]
        refine zm ?_<;>(simp only[go_sem,t8,t10]<;>try rfl)
    ·have g4:z3.1.1<0:=by simpa using q7
     rw[if_pos ⟨g3,g4⟩]
     simp only[go_sem,b,θ,q6,q7,qD]
     refine zg (c40 _) ?_
     rintro _ h12 ⟨rfl,e12⟩
     rw[e12]
     clear e12 h12
     simp only[go_sem,b,θ]
     obtain⟨z4,hz4⟩:∃z4:qt × Int,z4=((0,1),z3.2):=⟨_,rfl⟩
     obtain⟨hK,eK⟩:∃hK,hK=hC.set u.length (.box 210 [i64 0,i64 1,i64 z3.2]):=⟨_,rfl⟩
     have pK:Pre u hK:=by rw[eK];exact pC.set (zn _) rfl
     have aK0:hK[u.length]? =some (.box 210 (jY z4)):=by rw[eK,zq θ,hz4]
     have aK:∀M,(hK++M)[u.length]? =some (.box 210 (jY z4)):=λM=>zf aK0
     have fz4:jo z4.1:=by rw[hz4];exact⟨by simp[Fit],by simp[Fit]⟩
     rw[<-eK, <-hz4]
     clear eK
     refine zV rfl [.res] 1 [(1,0,[]),(2,0,[]),(0,0,[2]),(3,0,[]),(4,0,[]),(5,0,[])] rfl (by decide) (by decide) ?_
     simp only[go_sem,b,aK]
     refine zg (c40 _) ?_
     rintro _ μ ⟨rfl,Z⟩
     rw[Z]
     clear Z μ
     simp only[go_sem,b,aK]
     obtain⟨S,X⟩:∃S,S=hK++[Ob.box 210 [i64 0,i64 1,i64 z4.2]]:=⟨_,rfl⟩
     have pD:Pre u S:=by rw[X];exact pK.app (zG rfl)
     have U:S[u.length]? =some (.box 210 (jY z4)):=by rw[X];exact aK _
     have Q:S[hK.length]? =some (.box 210 (jY ((0,1),z4.2))):=by rw[X];exact zM rfl
     have lD:u.length<hK.length:=(zd.1 aK0).1
     rw[<-X]
     clear X
     by_cases g5:J>0/\z4.2=0
     ·have d5:decide (J>0)=true:=by simpa using g5.1
      have e5:(z4.2==0)=true:=by simpa using g5.2
      simp only[go_sem,t9,d5,e5,qD,b,U,Q]
      refine zg (c18 J 1 hn0f (by simp[Fit]) _) ?_
      rintro _ h21 ⟨rfl,e21⟩
      rw[e21]
      clear e21 h21
      obtain⟨mn,κ⟩:∃mn,mn=make J 1:=⟨_,rfl⟩
      rw[<-κ]
      have fmn:jo mn.1:=by rw[κ];exact Qg _ _
      simp only[go_sem]
      refine zg (qba _ hK.length ((0,1),z4.2) mn (zf Q)) ?_
      rintro _ ε ⟨rfl,eE⟩
      obtain⟨dm,hdm⟩:∃dm,dm=jd ((0,1),z4.2) mn:=⟨_,rfl⟩
      rw[<-hdm] at eE
      have pE:Pre u ε:=by rw[eE];exact(pD.app (zG rfl)).set (by omega) rfl
      have aE:ε[u.length]? =some (.box 210 (jY z4)):=by rw[eE,zc (by omega)];exact zf U
      have bE:ε[S.length]? =some (.box 24 [i64 mn.1.1,i64 mn.1.2]):=by
       have:=(zd.1 Q).1
       rw[eE,zc (by omega)];exact zM rfl
      have dE:ε[hK.length]? =some (.box 210 (jY dm)):=by rw[eE];exact zq (zf Q)
      clear eE U Q
      simp only[go_sem,b,aE,bE]
      refine zg (c46 z4.1 mn.1 fz4 fmn _) ?_
      rintro _ h22 ⟨rfl,e22⟩
      rw[e22]
      clear e22 h22
      obtain⟨dv,hdv⟩:∃dv,dv=VI z4.1 mn.1:=⟨_,rfl⟩
      have hdv2:Ze JQa z4.1 mn.1=dv:=hdv.symm
      rw[hdv2]
      simp only[go_sem]
      refine zg (qba _ hK.length dm dv dE) ?_
      rintro _ hG ⟨rfl,eG⟩
      obtain⟨y,P⟩:∃y,y=jd dm dv:=⟨_,rfl⟩
      rw[<-P] at eG
      have pG:Pre u hG:=by rw[eG];exact pE.set (by omega) rfl
      have aG:hG[u.length]? =some (.box 210 (jY z4)):=by rw[eG,zc (by omega)];exact aE
      have dG:hG[hK.length]? =some (.box 210 (jY y)):=by rw[eG];exact zq dE
      clear eG aE bE dE
      have hE:VO z4 J=if y.2=0 then⟨z4.1,J,y.1,0⟩ else⟨(0,0),J,(0,0),y.2⟩:=by
       unfold VO
       simp only[if_pos g5]
       rw[<-κ, <-hdm, <-hdv, <-P]
      obtain⟨M,hM,nM⟩:=pG
      have d:hG=h++ .box 30 (qd s a):: .box 24 [i64 0,i64 0]:: .box 24 [i64 0,i64 0]::(L1++(L2++M)):=by rw[hM,N];simp
      have H:∀C D,(h++ .box 30 (qd s a)::C::D::(L1++(L2++M)))[u.length]? =some (.box 210 (jY z4)):=λC D=>by rw[wD (p1:= .box 24 [i64 0,i64 0]) (p2:= .box 24 [i64 0,i64 0]) O, <-d];exact aG
      have E:∀C D,(h++ .box 30 (qd s a)::C::D::(L1++(L2++M)))[hK.length]? =some (.box 210 (jY y)):=λC D=>by rw[wD (p1:= .box 24 [i64 0,i64 0]) (p2:= .box 24 [i64 0,i64 0]) (by omega), <-d];exact dG
      rw[d]
      rw[hE]
      clear aG dG d
      by_cases F:y.2=0
      ·have f6:(y.2 != 0)=false:=by simpa using F
       rw[if_pos F]
       simp only[go_sem,H,E,f6,t4,t8,t9,t10,b]
       refine zV rfl [] 0 [(0,0,[]),(2,0,[]),(3,0,[]),(1,0,[]),(4,0,[]),(5,0,[4]),(6,0,[]),(7,0,[]),(8,0,[])] rfl (by decide) (by decide) ?_
       simp only[go_sem,H,E,t4,t8,t9,t10,b]
       refine zm ?_<;>(simp only[go_sem,t8,t10]<;>try rfl)
      ·have f6:(y.2 != 0)=true:=by simpa using F
       rw[if_neg F]
       simp only[go_sem,H,E,f6,t4,t8,t9,t10,b]
       refine zV rfl [] 0 [(0,0,[]),(1,0,[]),(2,0,[]),(3,0,[]),(4,0,[]),(5,0,[4]),(6,0,[]),(7,0,[4]),(8,0,[])] rfl (by decide) (by decide) ?_
       simp only[go_sem,H,E,t4,t8,t9,t10,b]
       refine zm ?_<;>(simp only[go_sem,t8,t10]<;>try rfl)
     ·obtain⟨y,P⟩:∃y:qt × Int,y=((0,1),z4.2):=⟨_,rfl⟩
      have hE:VO z4 J=if y.2=0 then⟨z4.1,J,y.1,0⟩ else⟨(0,0),J,(0,0),y.2⟩:=by
       unfold VO
       simp only[if_neg g5]
       rw[P]
      rw[<-P] at Q
      by_cases g7:J>0
      ·have d5:decide (J>0)=true:=by simpa using g7
       have e5:(z4.2==0)=false:=by
        have:¬ z4.2=0:=λq=>g5 ⟨g7,q⟩
        simpa using this
       simp only[go_sem,t9,d5,e5,qD,b,U]
       obtain⟨M,hM,nM⟩:=pD
       have d:S=h++ .box 30 (qd s a):: .box 24 [i64 0,i64 0]:: .box 24 [i64 0,i64 0]::(L1++(L2++M)):=by rw[hM,N];simp
       have H:∀C D,(h++ .box 30 (qd s a)::C::D::(L1++(L2++M)))[u.length]? =some (.box 210 (jY z4)):=λC D=>by rw[wD (p1:= .box 24 [i64 0,i64 0]) (p2:= .box 24 [i64 0,i64 0]) O, <-d];exact U
       have E:∀C D,(h++ .box 30 (qd s a)::C::D::(L1++(L2++M)))[hK.length]? =some (.box 210 (jY y)):=λC D=>by rw[wD (p1:= .box 24 [i64 0,i64 0]) (p2:= .box 24 [i64 0,i64 0]) (by omega), <-d];exact Q
       rw[d]
       rw[hE]
       clear U Q d
       by_cases F:y.2=0
       ·have f6:(y.2 != 0)=false:=by simpa using F
        rw[if_pos F]
        simp only[go_sem,H,E,f6,t4,t8,t9,t10,b]
        refine zV rfl [] 0 [(0,0,[]),(2,0,[]),(3,0,[]),(1,0,[]),(4,0,[]),(5,0,[4]),(6,0,[]),(7,0,[]),(8,0,[])] rfl (by decide) (by decide) ?_
        simp only[go_sem,H,E,t4,t8,t9,t10,b]
        refine zm ?_<;>(simp only[go_sem,t8,t10]<;>try rfl)
       ·have f6:(y.2 != 0)=true:=by simpa using F
        rw[if_neg F]
        simp only[go_sem,H,E,f6,t4,t8,t9,t10,b]
        refine zV rfl [] 0 [(0,0,[]),(1,0,[]),(2,0,[]),(3,0,[]),(4,0,[]),(5,0,[4]),(6,0,[]),(7,0,[4]),(8,0,[])] rfl (by decide) (by decide) ?_
        simp only[go_sem,H,E,t4,t8,t9,t10,b]
        refine zm ?_<;>(simp only[go_sem,t8,t10]<;>try rfl)
      ·have d5:decide (J>0)=false:=by simpa using g7
       simp only[go_sem,t9,d5,qD,b]
       obtain⟨M,hM,nM⟩:=pD
       have d:S=h++ .box 30 (qd s a):: .box 24 [i64 0,i64 0]:: .box 24 [i64 0,i64 0]::(L1++(L2++M)):=by rw[hM,N];simp
       have H:∀C D,(h++ .box 30 (qd s a)::C::D::(L1++(L2++M)))[u.length]? =some (.box 210 (jY z4)):=λC D=>by rw[wD (p1:= .box 24 [i64 0,i64 0]) (p2:= .box 24 [i64 0,i64 0]) O, <-d];exact U
       have E:∀C D,(h++ .box 30 (qd s a)::C::D::(L1++(L2++M)))[hK.length]? =some (.box 210 (jY y)):=λC D=>by rw[wD (p1:= .box 24 [i64 0,i64 0]) (p2:= .box 24 [i64 0,i64 0]) (by omega), <-d];exact Q
       rw[d]
       rw[hE]
       clear U Q d
       by_cases F:y.2=0
       ·have f6:(y.2 != 0)=false:=by simpa using F
        rw[if_pos F]
        simp only[go_sem,H,E,f6,t4,t8,t9,t10,b]
        refine zV rfl [] 0 [(0,0,[]),(2,0,[]),(3,0,[]),(1,0,[]),(4,0,[]),(5,0,[4]),(6,0,[]),(7,0,[]),(8,0,[])] rfl (by decide) (by decide) ?_
        simp only[go_sem,H,E,t4,t8,t9,t10,b]
        refine zm ?_<;>(simp only[go_sem,t8,t10]<;>try rfl)
       ·have f6:(y.2 != 0)=true:=by simpa using F
        rw[if_neg F]
        simp only[go_sem,H,E,f6,t4,t8,t9,t10,b]
        refine zV rfl [] 0 [(0,0,[]),(1,0,[]),(2,0,[]),(3,0,[]),(4,0,[]),(5,0,[4]),(6,0,[]),(7,0,[4]),(8,0,[])] rfl (by decide) (by decide) ?_
        simp only[go_sem,H,E,t4,t8,t9,t10,b]
        refine zm ?_<;>(simp only[go_sem,t8,t10]<;>try rfl)
