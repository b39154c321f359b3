import Derived.Test.YtigdlmpjijhpaaaGreatKA
import Derived.Test.YtigdlmpjijhpaaaGreatK47
import Derived.Test.YtigdlmpjijhpaaaGreatK46
import Derived.Test.YtigdlmpjijhpaaaGreatK44
set_option linter.all false
namespace Go.Proofs.YtigdlmpjijhpaaaGreat.Ax
open Go Go.Proofs
set_option maxRecDepth 100000
abbrev RX(x:Ch):AV:= .sl 27 (x.rows.map q9)
abbrev CV(s:Setup)(x:Ch):AV:= .ag (jL s (frA s) (BX x.bk) (BC x.bk) (RX x))
abbrev KV(ks:List Ky):AV:= .sl 2 (ks.map jm)
theorem Jja(h:List Ob)(x:AV)(rows:List (List AV))(b:SlOf h x 27 rows)(o:rows.length<1048576)(j:(rows.all λr=>r.length==27 && r.all AV.one)=true):
  ACalls Tryz.prog 88 [x] h λr h'=>(rows=[]/\h'=h/\r= .v (.slice none 0 0))∨(h'=h++[.row 45 27 rows 1]/\r= .tl h.length 1):=by
 refine jN (N:=8) (rs:=[.tmp 2]) (fn:=Tryz.f88) rfl rfl rfl rfl (qo rfl) rfl (⟨_,_,.inr ⟨rfl,rfl⟩,resK_app⟩) λB=>?_
 cases rows with
 | nil=>
   refine Zo 0 rfl b.rows (λm=>?_) ?_
   ·refine qD _ (by decide) ?_;simp only[go_sem]
    exact⟨.v (.slice none 0 0),by simp only[go_sem],.inl (.inl ⟨rfl,rfl⟩)⟩
   ·refine qD _ (by decide) ?_;simp only[go_sem]
    exact⟨.tl h.length 1,by simp only[go_sem],.inl (.inr ⟨rfl,rfl⟩)⟩
 | cons y l=>
   have k:=b.at (i:=0) (by simp)
   have g:=b.rows
   have f:xZ x=false:=by
    rcases yb g with⟨e,xs,rfl⟩|⟨i,s,rfl⟩|⟨a,e,i,n,rfl⟩<;>rfl
   unfold xZ at f
   have c:∀L,qa (h++L) x=some (y::l):=λL=>(b.app L).rows
   have d:(y::l).length*233<=140737488355328:=by omega
   rw[List.length_cons] at d
   refine qD _ (by decide) ?_;simp only[go_sem,g,k,f,c,j,d,Bool.or_true,decide_true]
   exact⟨.tl h.length 1,by simp only[go_sem],.inl (.inr ⟨rfl,rfl⟩)⟩
theorem Zqa{n:Nat}:∀l:List Ky,qM n (l.map jm)=true
 | []=>rfl
 | k::l=>by
   rw[List.map_cons,qM,Zqa l]
   rfl
theorem Yea{n:Nat}{s:Setup}{b:Bk}:qy n ((jL s (frA s) (BX b) (BC b) nl).take 25)=true:=by
 simp only[List.take_succ_cons,List.take_zero,frA,AV.lt,qy,Qp,Qq,Zf,wJ,vE,Bool.and_self]
theorem Vca{n:Nat}{s:Setup}{x:Ch}:(CV s x).lt n=true:=by
 simp only[frA,AV.lt,qy,Qp,Qq,Zf,wJ,vE,Zt,Bool.and_self]
theorem YOa{n:Nat}{w:An}:(AV.ag (xN w)).lt n=true:=by
 simp only[AV.lt,qy,Zt,zDa,Qd,Bool.and_self]
theorem YPa{n:Nat}{ks:List Ky}:(KV ks).lt n=true:=by
 simp only[AV.lt,Zqa]
theorem Zra{n:Nat}{a b c:AV}(e:a.lt n=true)(d:b.lt n=true)(f:c.lt n=true):(AV.tup [a,b,c]).lt n=true:=by
 show(a.lt n && (b.lt n && (c.lt n && true)))=true
 rw[e,d,f]
 rfl
theorem FrzTo.own{h L:List Ob}{ty e:Nat}{v:AV}{rows:List (List AV)}(k:OwnS h (h++L) ty e v rows)(a:0<e)(b:qM h.length rows=true):FrzTo h L v (.sl e rows):= .new a b (k.new (zo _))
theorem FrzTo.nil{h L:List Ob}(e:Nat):FrzTo h L nl (.sl e []):=λB w g d a c u b=>WeakV.nil e _ u (FrzTo.lt (h:=h) (L:=L) (x:=nl) rfl B w g d a c u b)
theorem FrzTo.sln{h L:List Ob}{z:AV}{e:Nat}{rows:List (List AV)}(k:SlN z e rows)(a:qM h.length rows=true):FrzTo h L z (.sl e rows):=by
 rcases k with rfl|⟨rfl,rfl⟩
 ·exact .lt a
 ·exact .nil e
theorem Vda{h L:List Ob}{s:Setup}{b:Bk}{R:List RW}{c:AV}(k:OwnS h (h++L) 45 27 c (R.map q9)):FrzTo h L (.ag (jL s (frA s) (BX b) (BC b) c)) (CV s ⟨b,R⟩):=
 .ag (FrzL.pre (a:=(jL s (frA s) (BX b) (BC b) nl).take 25) Yea (.cons (.own k (by decide) (Zt _)) .nil))
theorem ShI.book{h0 H:List Ob}{d:Nat}{s:Setup}{b b':Bk}{R:List RW}{ks:List Ky}{a c:AV}(e:H[d]? =some (xI s b a c))(i:ShI h0 H d s b R ks)(f:OwnS h0 H 45 27 a (R.map q9))(g:OwnS h0 H 90 2 c (ks.map jm)):ShI h0 (H.set d (xI s b' a c)) d s b' R ks:=
 ⟨i.pre.set i.dl rfl,i.dl,a,c,zm e,f.setB e,g.setB e⟩
theorem yga{s:Setup}{b:Bk}{x:Fx}(i:BkI s b)(h:QR s b x=0):∀k∈jt s b.evs x,0<=k.1:=λk a=>by
 obtain⟨j,_,_⟩:=Wf.1 h
 obtain⟨_,_,l,f⟩:=QS j
 have d:∀e:Ev,vK s e=true->0<=e.worker:=λe m=>(wO (yC m)).2.2.1
 have a:=ZU.1 a
 unfold ZT at a
 rcases zK.1 a with a|a
 ·split at a
  ·rename_i c
   rw[zq] at c
   rcases f with⟨n,_⟩|⟨_,A,y,R,o,g,_⟩
   ·rw[n] at c;cases c.2
   ·rw[g] at a
    rw[(Wd.1 a).1]
    exact d y (i.ok y (by rw[o];simp))
  ·cases a
 ·split at a
  ·rename_i c
   rw[(Wd.1 a).1]
   exact d _ (l c)
  ·cases a
theorem Yfa{s:Setup}(a:z6 s=true){l:List Ev}{x:Fx}:(jt s l x).length<100000:=by
 have:=xpa a l x
 omega
set_option maxHeartbeats 8000000 in
theorem xxb(h:List Ob)(s:Setup)(f:SFit s)(hok:z6 s=true)(x:Ch)(xi:ChI s x)(q:Cm)(hrl:s.rates.length<4096):
  ACalls Tryz.prog 36 [CV s x,.ag (ym q)] h λr h'=>∃L,h'=h++L/\NoRes L/\FrzTo h L r (.tup [CV s (doC s x q).1,.ag (xN (doC s x q).2.1),KV (doC s x q).2.2]):=by
 have hex:∃r h',(∃L,h'=h++L/\NoRes L/\FrzTo h L r (.tup [CV s (doC s x q).1,.ag (xN (doC s x q).2.1),KV (doC s x q).2.2]))/\ResK h h':=
  ⟨_,h,⟨[],by simp,jh,.lt (Zra Vca YOa YPa)⟩,.refl⟩
 have O:=(frM s h).ones
 have xlen:=xi.len
 have xlen1:s.rates.length*53<=4096*53:=Nat.mul_le_mul_right _ (by omega)
 have xfew:=xi.bk.few
 have sfew:=Vu xi.bk
 refine jN (N:=97) (rs:=[.cell 4 83,.cell 5 71,.tmp 6]) (fn:=Tryz.f36) rfl rfl rfl rfl (qo rfl) rfl (hex) λB=>?_
 refine qG (by decide) ?_
 simp only[go_sem,O]
 obtain⟨J,y⟩:∃J,J=h++[Ob.box 83 (jL s (frA s) (BX x.bk) (BC x.bk) (RX x)),.box 79 (ym q),.box 83 (jL zS zA jF jF jF),.box 71 [i64 0,nl,nl,nl]]:=⟨_,rfl⟩
 have U:J[h.length]? =some (.box 83 (jL s (frA s) (BX x.bk) (BC x.bk) (RX x))):=by rw[y,zM rfl];rfl
 have u:J[h.length+1]? =some (.box 79 (ym q)):=by rw[y,zG (k:=1) rfl];rfl
 have v:J[h.length+2]? =some (.box 83 (jL zS zA jF jF jF)):=by rw[y,zG (k:=2) rfl];rfl
 have C:J[h.length+3]? =some (.box 71 [i64 0,nl,nl,nl]):=by rw[y,zG (k:=3) rfl];rfl
 have hp1:Pre h J:=⟨_,y,zl rfl (zl rfl (zl rfl (zD rfl)))⟩
 have hl1:J.length=h.length+4:=by rw[y,zf];rfl
 have τ:=y
 simp only[zS,zA,jF] at τ v
 rw[<-τ]
 clear τ y
 refine jS (xr (λT m=>∃d,Pre J m/\ShI h m d s x.bk x.rows []/\h.length+4<=d/\m[d+1]? =some (.box 158 [.ptr d 0])/\T 2= .ptr h.length 0/\T 3= .ptr (h.length+1) 0/\T 4= .ptr (h.length+2) 0/\T 5= .ptr (h.length+3) 0/\T 6=nl/\T 7= .ptr (d+1) 0) (by decide) ?_ ?_)
 ·simp only[go_sem]
  refine zL rfl [.res,.res] 2 [(0,0,[]),(2,0,[]),(1,0,[]),(3,0,[]),(4,0,[1]),(5,0,[]),(6,0,[]),(7,0,[]),(8,1,[]),(9,0,[])] rfl (by decide) (by decide) ?_
  have α:∀M,(J++M)[h.length]? =some (.box 83 (jL s (frA s) (BX x.bk) (BC x.bk) (RX x))):=λM=>ze U
  simp only[go_sem,α,O]
  refine zg (Jja _ (RX x) _ ⟨rfl,λ_=>rfl⟩ (by rw[zb];omega) (KFa _)) ?_
  rintro r m hr
  rcases hr with⟨g1,rfl,rfl⟩|⟨rfl,rfl⟩
  ·simp only[go_sem,α,O]
   refine⟨J.length,⟨_,rfl,zl rfl (zD rfl)⟩,⟨hp1.app (zl rfl (zD rfl)),by omega,nl,nl,by rw[zM rfl];rfl,.inl ⟨rfl,g1⟩,.inl ⟨rfl,rfl⟩⟩,by omega,by rw[zG (k:=1) rfl];rfl,rfl⟩
  ·simp only[go_sem,α,O]
   refine⟨J.length,⟨_,rfl,zl rfl (zl rfl (zD rfl))⟩,⟨hp1.app (zl rfl (zl rfl (zD rfl))),by omega,.tl (J.length+2) 1,nl,by rw[zM rfl];rfl,.inr ⟨J.length+2,1,by omega,rfl,by rw[zG (k:=2) rfl];rfl⟩,.inl ⟨rfl,rfl⟩⟩,by omega,by rw[zG (k:=1) rfl];rfl,rfl⟩
 rintro T m ⟨d,K,i2,hd4,t,t2,t3,t4,t5,t6,c⟩
 have hl2:=K.len
 have U:=K.get U
 have u:=K.get u
 have v:=K.get v
 have C:=K.get C
 clear K
 have hd2:d+1<m.length:=(zd.1 t).1
 refine qG (by decide) ?_
 simp only[go_sem,c]
 refine jS (qG (by decide) ?_)
 simp only[go_sem]
 obtain⟨H3,Q⟩:∃H3,H3=m++[Ob.box 162 [.fn (.func 89) [] [.ptr (d+1) 0]]]:=⟨_,rfl⟩
 have hl3:H3.length=m.length+1:=by rw[Q,zf];rfl
 have e8:H3[m.length]? =some (.box 162 [.fn (.func 89) [] [.ptr (d+1) 0]]):=by rw[Q,zM rfl];rfl
 have up:∀ {j:Nat} {o:Ob},m[j]? =some o->H3[j]? =some o:=λhj=>by rw[Q];exact ze hj
 have t:=up t
 have U:=up U
 have u:=up u
 have v:=up v
 have C:=up C
 have i3:ShI h H3 d s x.bk x.rows []:=by rw[Q];exact i2.app (zD rfl)
 rw[<-Q]
 clear Q up i2
 have hw0:d<H3.length:=by omega
 refine jS (xr (λa P=>P=H3/\a 2= .ptr h.length 0/\a 3= .ptr (h.length+1) 0/\a 4= .ptr (h.length+2) 0/\a 5= .ptr (h.length+3) 0/\a 6=nl/\a 7= .ptr (d+1) 0/\a 8= .ptr m.length 0/\¬ (q.kind=3∨q.kind=7)) (by decide) ?_ ?_)
 ·refine w9 (λa P=>P=H3/\a 2= .ptr h.length 0/\a 3= .ptr (h.length+1) 0/\a 4= .ptr (h.length+2) 0/\a 5= .ptr (h.length+3) 0/\a 6=nl/\a 7= .ptr (d+1) 0/\a 8= .ptr m.length 0/\a 9= .fn (.func 90) [] [.ptr m.length 0]/\a 31=bl (q.kind==3 || q.kind==7)) ?_ ?_
  ·cases g3:q.kind==3
   ·simp only[go_sem,t3,u,g3,qt]
    exact⟨t2,t4,t5,t6,c⟩
   ·simp only[go_sem,t3,u,g3,qt]
    exact⟨t2,t4,t5,t6,c⟩
  clear t2 t3 t4 t5 t6 c
  rintro T P ⟨rfl,t2,t3,t4,t5,t6,c,t8,t9,t31⟩
  cases A:(q.kind==3 || q.kind==7)
  ·simp only[go_sem,t31,A,qt]
   refine⟨t2,t3,t4,t5,t6,c,t8,λz=>?_⟩
   rw[zY] at A
   rcases z with z|z
   ·rw[z] at A;cases A.1
   ·rw[z] at A;cases A.2
  ·have hk:q.kind=3∨q.kind=7:=by
    rw[Bool.or_eq_true,beq_iff_eq,beq_iff_eq] at A
    exact A
   have R:doC s x q=vg s x q:=by unfold doC;rw[if_pos hk]
   rw[R]
   have ξ:(vg s x q).1.bk=x.bk:=by
    unfold vg
    split
    ·rfl
    ·split<;>rfl
   have asg:(vg s x q).2.1.segs=[]:=by
    unfold vg
    split
    ·rfl
    ·split<;>rfl
   simp only[go_sem,t31,A,t3,c,t9,u,t,qt]
   refine zg (kwb h P d (d+1) m.length s f x xi i3 t e8 (by omega) (by omega) q hk hrl) ?_
   rintro _ g ⟨F,av,zv,kv,rfl,p5,o5,oa5,sz5,ok5,bd5⟩
   have f4:=bd5 _ _ _ (by omega) v
   have f5:=bd5 _ _ _ (by omega) C
   have D:=o5.rows.one
   have hao:=oa5.rows.one
   have E:=ok5.rows.one
   have hzo:AV.one zv=true:=by rcases sz5 with rfl|⟨rfl,_⟩<;>rfl
   have f5s:∀o,(g.set (h.length+2) o)[h.length+3]? =some (.box 71 [i64 0,nl,nl,nl]):=λo=>by rw[zc (by omega)];exact f5
   have g4:∀o p,((g.set (h.length+2) o).set (h.length+3) p)[h.length+2]? =some o:=λo p=>by rw[zc (by omega)];exact zm f4
   have g5:∀o p,((g.set (h.length+2) o).set (h.length+3) p)[h.length+3]? =some p:=λo p=>zm (f5s o)
   simp only[go_sem,t4,t5,f4,f5,f5s,O,D,hao,E,hzo]
   obtain⟨L,hL,hN⟩:=(p5.set (i:=h.length+2) (by omega) (o:= .box 83 (jL s (frA s) (BX x.bk) (BC x.bk) F)) rfl).set (i:=h.length+3) (by omega) (o:= .box 71 [i64 (vg s x q).2.1.err,av,nl,zv]) rfl
   have o6:=o5.set2 f4 f5 (by omega) (.box 83 (jL s (frA s) (BX x.bk) (BC x.bk) F)) (.box 71 [i64 (vg s x q).2.1.err,av,nl,zv])
   have oa6:=oa5.set2 f4 f5 (by omega) (.box 83 (jL s (frA s) (BX x.bk) (BC x.bk) F)) (.box 71 [i64 (vg s x q).2.1.err,av,nl,zv])
   have W:=ok5.set2 f4 f5 (by omega) (.box 83 (jL s (frA s) (BX x.bk) (BC x.bk) F)) (.box 71 [i64 (vg s x q).2.1.err,av,nl,zv])
   rw[hL] at o6 oa6 W
   refine⟨.tup [.ag (jL s (frA s) (BX x.bk) (BC x.bk) F),.ag [i64 (vg s x q).2.1.err,av,nl,zv],kv],by simp only[go_sem,t4,t5,g4,g5,O,D,hao,E,hzo],.inl ⟨L,hL,hN,?_⟩⟩
   have Y:=Vda (s:=s) (b:=x.bk) o6
   rw[<-ξ] at Y
   rw[ξ] at Y
   refine .tup (.cons ?_ (.cons (.ag (.cons (.lt rfl) (.cons (.own oa6 (by decide) (Zt _)) (.cons ?_ (.cons (.sln sz5 (Qd _)) .nil))))) (.cons (.own W (by decide) (Zqa _)) .nil)))
   ·have hx:CV s (vg s x q).1=CV s ⟨x.bk,(vg s x q).1.rows⟩:=by rw[<-ξ]
    rw[hx]
    exact Y
   ·rw[asg]
    exact .nil 5
 clear t2 t3 t4 t5 t6 c
 rintro T P ⟨rfl,t2,t3,t4,t5,t6,c,t8,hk⟩
 refine qG (by decide) ?_
 simp only[go_sem,t3,u]
 obtain⟨H5,n⟩:∃H5,H5=P++[Ob.box 77 (fxC (Zl q))]:=⟨_,rfl⟩
 refine jS (xr (λa g=>g=H5/\a 2= .ptr h.length 0/\a 3= .ptr (h.length+1) 0/\a 4= .ptr (h.length+2) 0/\a 5= .ptr (h.length+3) 0/\a 7= .ptr (d+1) 0/\a 8= .ptr m.length 0/\a 10= .ptr P.length 0) (by decide) ?_ ?_)
 ·have η:∀M,(P++M)[h.length+1]? =some (.box 79 (ym q)):=λM=>ze u
  cases g1:q.kind==1
  ·have hn:¬ q.kind=1:=by simpa using g1
   have hf:Zl q=q.fx:=by unfold Zl;rw[if_neg hn]
   rw[hf] at n
   rw[n]
   simp only[go_sem,t3,η,g1,qt]
   exact⟨t2,t4,t5,c,t8⟩
  ·have hn:q.kind=1:=by simpa using g1
   have hf:Zl q=⟨1,q.fx.ev⟩:=by unfold Zl;rw[if_pos hn]
   rw[hf] at n
   rw[n]
   simp only[go_sem,t3,η,g1,qt]
   exact⟨t2,t4,t5,c,t8⟩
 clear t2 t3 t4 t5 t6 c t8
 rintro T g ⟨rfl,t2,t3,t4,t5,c,t8,t10⟩
 have hl5:g.length=P.length+1:=by rw[n,zf];rfl
 have ν:g[P.length]? =some (.box 77 (fxC (Zl q))):=by rw[n,zM rfl];rfl
 have up:∀ {j:Nat} {o:Ob},P[j]? =some o->g[j]? =some o:=λhj=>by rw[n];exact ze hj
 have t:=up t
 have e8:=up e8
 have U:=up U
 have u:=up u
 have v:=up v
 have C:=up C
 have i5:ShI h g d s x.bk x.rows []:=by rw[n];exact i3.app (zD rfl)
 clear n up i3
 refine qG (by decide) ?_
 have α:∀M,(g++M)[h.length]? =some (.box 83 (jL s (frA s) (BX x.bk) (BC x.bk) (RX x))):=λM=>ze U
 have η:∀M,(g++M)[h.length+1]? =some (.box 79 (ym q)):=λM=>ze u
 simp only[go_sem,t2,t3,U,u,O]
 refine zg (cDo _ s f x.bk xi.bk q hrl) ?_
 rintro _ h6 ⟨rfl,e6⟩
 rw[e6]
 clear e6
 have κ:=Vo q xi.bk
 obtain⟨b',υ⟩:∃b',b'=(doP s x.bk q).1:=⟨_,rfl⟩
 obtain⟨w,hw⟩:∃w,w=(doP s x.bk q).2:=⟨_,rfl⟩
 have V:=Wn (s:=s) (x:=x) hk
 have X:=λh1 m=>z7a (q:=q) xi h1 m
 rw[<-υ, <-hw] at V X
 rw[<-υ] at κ
 rw[<-υ, <-hw]
 simp only[go_sem,O]
 obtain⟨H7,I⟩:∃H7,H7=g++[Ob.box 63 (wg s (frA s) (BX b') (BC b')),Ob.box 71 (xN w)]:=⟨_,rfl⟩
 have hl7:H7.length=g.length+2:=by rw[I,zf];rfl
 have ε:H7[g.length]? =some (.box 63 (wg s (frA s) (BX b') (BC b'))):=by rw[I,zM rfl];rfl
 have l:H7[g.length+1]? =some (.box 71 (xN w)):=by rw[I,zG (k:=1) rfl];rfl
 have up:∀ {j:Nat} {o:Ob},g[j]? =some o->H7[j]? =some o:=λhj=>by rw[I];exact ze hj
 have t:=up t
 have e8:=up e8
 have U:=up U
 have u:=up u
 have v:=up v
 have C:=up C
 have ν:=up ν
 have i7:ShI h H7 d s x.bk x.rows []:=by rw[I];exact i5.app (zl rfl (zD rfl))
 rw[<-I]
 clear I up i5 α η
 refine jS (xr (λa Z=>∃b0 R' new,ShI h Z d s b0 R' new/\BoxD d H7 Z/\a 4= .ptr (h.length+2) 0/\a 5= .ptr (h.length+3) 0/\a 7= .ptr (d+1) 0/\a 11= .ptr g.length 0/\a 12= .ptr (g.length+1) 0/\doC s x q=(⟨b',R'⟩,w,new)) (by decide) ?_ ?_)
 ·refine w9 (λa Z=>Z=H7/\a 2= .ptr h.length 0/\a 4= .ptr (h.length+2) 0/\a 5= .ptr (h.length+3) 0/\a 7= .ptr (d+1) 0/\a 8= .ptr m.length 0/\a 10= .ptr P.length 0/\a 11= .ptr g.length 0/\a 12= .ptr (g.length+1) 0/\a 64=bl (w.err==0 && (q.kind==1 || q.kind==2))) ?_ ?_
  ·cases z0:w.err==0
   ·simp only[go_sem,t3,u,l,z0,qt]
    exact⟨t2,t4,t5,c,t8,t10⟩
   ·cases z1:q.kind==1
    ·simp only[go_sem,t3,u,l,z0,z1,qt]
     exact⟨t2,t4,t5,c,t8,t10⟩
    ·simp only[go_sem,t3,u,l,z0,z1,qt]
     exact⟨t2,t4,t5,c,t8,t10⟩
  clear t2 t3 t4 t5 c t8 t10
  rintro T Z ⟨rfl,t2,t4,t5,c,t8,t10,β,ζ,t64⟩
  cases A:(w.err==0 && (q.kind==1 || q.kind==2))
  ·simp only[go_sem,t64,A,qt]
   refine⟨x.bk,x.rows,[],i7,.refl,t4,t5,c,β,ζ,(V λ⟨z1,z2⟩=>?_).1⟩
   rw[z1] at A
   rcases z2 with z2|z2<;>(rw[z2] at A;cases A)
  ·have hz:w.err=0/\(q.kind=1∨q.kind=2):=by
    rw[zq,Bool.or_eq_true,beq_iff_eq,beq_iff_eq,beq_iff_eq] at A
    exact A
   obtain⟨R',new,so,ci',hsk,R⟩:=X hz.2 hz.1
   have hfx:QR s x.bk (Zl q)=0:=by
    have:=hz.1
    rw[hw,xoa hz.2,K9a] at this
    exact this
   obtain⟨F,kv,q1,q2,q3⟩:=i7.box
   have D:=q2.rows.one
   have E:=q3.rows.one
   have i8:=ShI.book (b':=b') q1 i7 q2 q3
   simp only[go_sem,t64,A,qt,t2,t10,U,ν,O]
   refine zg (vea _ s (frA s) (frM s _) (BX x.bk) x.bk.evs (Zl q) ⟨rfl,λ_=>rfl⟩ (by omega)) ?_
   rintro _ h9 ⟨rfl,e9⟩
   rw[e9]
   clear e9
   have hd7:∀o,(Z.set d o)[d+1]? =some (.box 158 [.ptr d 0]):=λo=>by rw[zc (by omega)];exact t
   have hd8:∀o,(Z.set d o)[m.length]? =some (.box 162 [.fn (.func 89) [] [.ptr (d+1) 0]]):=λo=>by rw[zc (by omega)];exact e8
   simp only[go_sem,c,t8,β,t,e8,ε,q1,hd7,hd8,O,D,E]
   refine zg (YNa h (Z.set d (xI s b' F kv)) _ d s f b' x.rows [] (jt s x.bk.evs (Zl q)) true _ _ (λ_=>⟨rfl,λ_=>rfl⟩) i8 xi.srt (yga xi.bk hfx) (by have:=κ.few;omega) (by omega) (by decide) (Yfa hok) (xi.fl f) (λH5 R5 ks5 i5 bk5 s5 l5 f5 k5 hk5=>(xwb i5 (d+1) (bk5 _ _ _ (by omega) (hd7 _)) s5 (by omega) f5 k5).mono λr h' ⟨z1,z2⟩=>⟨by rw[z1];cases isH R5 k5<;>rfl,z2⟩)) ?_
   rintro _ G ⟨rfl,i9,bd9⟩
   rw[hsk] at i9
   simp only[go_sem]
   exact⟨b',R',new,i9,(BoxD.refl.setD _).trans bd9,t4,t5,c,β,ζ,R⟩
 clear t2 t3 t4 t5 c t8 t10
 rintro T Z ⟨b0,R',new,i8,S,t4,t5,c,β,ζ,R⟩
 rw[R]
 clear R V X
 have t:=S _ _ _ (by omega) t
 have v:=S _ _ _ (by omega) v
 have C:=S _ _ _ (by omega) C
 have ε:=S _ _ _ (by omega) ε
 have l:=S _ _ _ (by omega) l
 obtain⟨F,kv,q1,q2,q3⟩:=i8.box
 have D:=q2.rows.one
 have E:=q3.rows.one
 have i9:=ShI.book (b':=b') q1 i8 q2 q3
 refine qG (by decide) ?_
 simp only[go_sem,c,β,t,ε,q1,O,D,E]
 obtain⟨G,H⟩:∃G,G=Z.set d (xI s b' F kv):=⟨_,rfl⟩
 have up:∀ {j:Nat} {o:Ob},j≠d->Z[j]? =some o->G[j]? =some o:=λhj hh=>by rw[H,zc (λe=>hj e.symm)];exact hh
 have t:=up (by omega) t
 have v:=up (by omega) v
 have C:=up (by omega) C
 have l:=up (by omega) l
 have q1':G[d]? =some (xI s b' F kv):=by rw[H];exact zm q1
 have q2':OwnS h G 45 27 F (R'.map q9):=by rw[H];exact q2.setB q1
 have q3':OwnS h G 90 2 kv (new.map jm):=by rw[H];exact q3.setB q1
 have p9:Pre h G:=by rw[H];exact i9.pre
 rw[<-H]
 clear H up i9 i8 q1 q2 q3 S
 have s5:∀o,(G.set (h.length+2) o)[h.length+3]? =some (.box 71 [i64 0,nl,nl,nl]):=λo=>by rw[zc (by omega)];exact C
 have s12:∀o,(G.set (h.length+2) o)[g.length+1]? =some (.box 71 (xN w)):=λo=>by rw[zc (by omega)];exact l
 have s7:∀o,(G.set (h.length+2) o)[d+1]? =some (.box 158 [.ptr d 0]):=λo=>by rw[zc (by omega)];exact t
 have sd:∀o,(G.set (h.length+2) o)[d]? =some (xI s b' F kv):=λo=>by rw[zc (by omega)];exact q1'
 have u7:∀o p,((G.set (h.length+2) o).set (h.length+3) p)[d+1]? =some (.box 158 [.ptr d 0]):=λo p=>by rw[zc (by omega)];exact s7 o
 have ud:∀o p,((G.set (h.length+2) o).set (h.length+3) p)[d]? =some (xI s b' F kv):=λo p=>by rw[zc (by omega)];exact sd o
 have g4:∀o p,((G.set (h.length+2) o).set (h.length+3) p)[h.length+2]? =some o:=λo p=>by rw[zc (by omega)];exact zm v
 have g5:∀o p,((G.set (h.length+2) o).set (h.length+3) p)[h.length+3]? =some p:=λo p=>zm (s5 o)
 refine jS (qG (by decide) ?_)
 simp only[go_sem]
 refine zL rfl [] 0 [(0,0,[]),(1,0,[]),(2,0,[]),(3,0,[]),(4,0,[]),(5,0,[]),(6,0,[]),(7,0,[]),(8,0,[]),(9,0,[4,5,8]),(10,0,[5,8]),(11,0,[])] rfl (by decide) (by decide) ?_
 simp only[go_sem,t4,t5,c,ζ,t,v,C,l,q1',s5,s12,s7,sd,u7,ud,O,D,E]
 obtain⟨L,hL,hN⟩:=(p9.set (i:=h.length+2) (by omega) (o:= .box 83 (jL s (frA s) (BX b') (BC b') F)) rfl).set (i:=h.length+3) (by omega) (o:= .box 71 (xN w)) rfl
 have o6:=q2'.set2 v C (by omega) (.box 83 (jL s (frA s) (BX b') (BC b') F)) (.box 71 (xN w))
 have W:=q3'.set2 v C (by omega) (.box 83 (jL s (frA s) (BX b') (BC b') F)) (.box 71 (xN w))
 rw[hL] at o6 W
 refine jS (jCa ⟨.tup [.ag (jL s (frA s) (BX b') (BC b') F),.ag (xN w),kv],by simp only[go_sem,t4,t5,g4,g5,O,D,E],.inl ⟨L,hL,hN,?_⟩⟩)
 exact .tup (.cons (Vda o6) (.cons (.lt YOa) (.cons (.own W (by decide) (Zqa _)) .nil)))
theorem kxb(h:List Ob)(s:Setup)(f:SFit s)(b:z6 s=true)(x:Ch)(c:ChI s x)(q:Cm)(a:s.rates.length<4096):
  ACalls Tryz.prog 36 [CV s x,.ag (ym q)] h λr h'=>r= .tup [CV s (doC s x q).1,.ag (xN (doC s x q).2.1),KV (doC s x q).2.2]/\h'=h:=
 X6 (xxb h s f b x c q a)
def kvr(ks:List Ky):List AV:=[KV ks]
abbrev zC:Ob:= .box 83 (jL zS zA jF jF jF)
abbrev Xq(s:Setup)(x:Ch):Ob:= .box 83 (jL s (frA s) (BX x.bk) (BC x.bk) (RX x))
def TwoS(h h':List Ob)(y z:AV)(rows ks:List (List AV)):Prop:=(y=nl/\z=nl/\rows=[]/\ks=[])∨∃i st j a,h.length<=i/\h.length<=j/\y= .tl i st/\z= .tl j a/\h'[i]? =some (.row 71 4 rows st)/\h'[j]? =some (.row 92 1 ks a)
structure AllCI (h h':List Ob) (s:Setup) (x:Ch) (y z:AV) (rows ks:List (List AV)):Prop where
 pre:Pre h h'
 b0:h'[h.length]? =some (Xq s x)
 b1:h'[h.length+1]? =some zC
 two:TwoS h h' y z rows ks
theorem yha{n:Nat}:∀l:List (List Ky),qM n (l.map kvr)=true
 | []=>rfl
 | k::l=>by
   rw[List.map_cons,qM,yha l]
   simp only[kvr,qy,YPa,Bool.and_self]
theorem TwoS.frz{h L:List Ob}{y z:AV}{rows ks:List (List AV)}(k:TwoS h (h++L) y z rows ks)(c:qM h.length rows=true)(b:qM h.length ks=true):FrzTo h L y (.sl 4 rows)/\FrzTo h L z (.sl 1 ks):=by
 rcases k with⟨rfl,rfl,rfl,rfl⟩|⟨i,st,j,e,g,f,rfl,rfl,d,a⟩
 ·exact⟨.nil 4,.nil 1⟩
 ·exact⟨.own (.inr ⟨i,st,g,rfl,d⟩) (by decide) c,.own (.inr ⟨j,e,f,rfl,a⟩) (by decide) b⟩
set_option maxHeartbeats 4000000 in
theorem qrb(h:List Ob)(s:Setup)(f:SFit s)(ω:z6 s=true)(x:Ch)(xi:ChI s x)(c:AV)(l:List Cm)(hx:SlOf h c 16 (l.map ym))(hl:l.length<1048576)(hrl:s.rates.length<4096):
  ACalls Tryz.prog 34 [CV s x,c] h λr h'=>∃L,h'=h++L/\NoRes L/\FrzTo h L r (.tup [CV s (xU s x l).1,.sl 4 ((xU s x l).2.1.map xN),.sl 1 ((xU s x l).2.2.map kvr)]):=by
 have hex:∃r h',(∃L,h'=h++L/\NoRes L/\FrzTo h L r (.tup [CV s (xU s x l).1,.sl 4 ((xU s x l).2.1.map xN),.sl 1 ((xU s x l).2.2.map kvr)]))/\ResK h h':=
  ⟨_,h,⟨[],by simp,jh,.lt (Zra Vca (xha _) (yha _))⟩,.refl⟩
 have P:=(frM s h).ones
 have υ:∀M,qa (h++M) c=some (l.map ym):=λM=>(hx.app M).rows
 refine zi Tryz.f34 [.cell 4 83,.tmp 5,.tmp 6] 40 rfl rfl rfl rfl rfl rfl (by decide) (hex) λB=>?_
 simp only[go_sem,P,υ,zb]
 refine zI (by decide) (λm T H=>∃(n:Nat) (y z:AV),n<=l.length/\AllCI h H s (xU s x (l.take n)).1 y z ((xU s x (l.take n)).2.1.map xN) ((xU s x (l.take n)).2.2.map kvr)/\T 2= .ptr h.length 0/\T 4= .ptr (h.length+1) 0/\T 7=y/\T 8=z/\T 14=c/\T 15=i64 l.length/\T 16=i64 n/\m=l.length - n) l.length
  ⟨0,nl,nl,by omega,⟨⟨_,rfl,zl rfl (zD rfl)⟩,by rw[zM rfl];rfl,by rw[zG (k:=1) rfl];rfl,.inl ⟨rfl,rfl,rfl,rfl⟩⟩,by simp only[go_sem],by simp only[go_sem],by(simp only[go_sem]<;>rfl),by(simp only[go_sem]<;>rfl),by simp only[go_sem],by(simp only[go_sem]<;>rfl),by(simp only[go_sem]<;>rfl),rfl⟩ ?_
 rintro m T H ⟨n,y,z,hn,v,t2,t4,t7,t8,W,R,G,rfl⟩
 have α:=v.pre.sl hx
 simp only[go_sem,R,G]
 refine ways (λe=>?_) (λe=>?_)
 ·have S:=dlt e
  have N:=Zaa S
  have hkl:(n:Int)<l.length:=by omega
  have g:=Jha (s:=s) (x:=x) S
  have hrx:=α.rows
  have ε:=α.at (i:=n) (by simpa using S)
  have δ:=z8a (l.take n) xi
  have hAl:=vwa (s:=s) (l.take n) (x:=x)
  have htl:(l.take n).length<=n:=by rw[zJ];omega
  obtain⟨x',μ⟩:∃x',x'=(xU s x (l.take n)).1:=⟨_,rfl⟩
  obtain⟨A,hA⟩:∃A,A=(xU s x (l.take n)).2.1:=⟨_,rfl⟩
  obtain⟨K,hK⟩:∃K,K=(xU s x (l.take n)).2.2:=⟨_,rfl⟩
  rw[<-μ, <-hA, <-hK] at g
  rw[<-μ] at δ v
  rw[<-hA, <-hK] at v hAl
  obtain⟨q,hq⟩:∃q,q=l[n]:=⟨_,rfl⟩
  rw[<-hq] at N g
  have F:=v.b0
  have d:∀M,(H++M)[h.length]? =some (Xq s x'):=λM=>ze F
  simp only[go_sem,t2,W,G,N,hkl,hrx,ε,d,P,zb,Int.toNat_natCast,zh]
  refine zg (kxb _ s f ω x' δ q hrl) ?_
  rintro _ h1 ⟨rfl,e1⟩
  rw[e1]
  obtain⟨x2,φ⟩:∃x2,x2=(doC s x' q).1:=⟨_,rfl⟩
  obtain⟨w,hw⟩:∃w,w=(doC s x' q).2.1:=⟨_,rfl⟩
  obtain⟨k,hk⟩:∃k,k=(doC s x' q).2.2:=⟨_,rfl⟩
  rw[<-φ, <-hw, <-hk] at g⊢
  simp only[go_sem,t2,P,d]
  refine zL rfl [.res,.res] 2 [(1,0,[]),(5,0,[]),(6,0,[]),(0,0,[]),(2,0,[]),(3,0,[]),(4,0,[0]),(7,1,[]),(8,0,[0]),(9,0,[]),(10,0,[]),(11,0,[])] rfl (by decide) (by decide) ?_
  rcases v.two with⟨rfl,rfl,g1,g2⟩|⟨i,st,j,Q,u1,Z,rfl,rfl,E,J⟩
  ·simp only[go_sem,t2,t7,t8,G,P,d]
   have p0:Pre h (H++[Ob.box 79 (ym q),Xq s x2,.box 71 (xN w),.row 71 4 [xN w] 0,.row 92 1 [kvr k] 0,.row 71 4 [xN w] 0,.row 92 1 [kvr k] 0]):=v.pre.app (zl rfl (zl rfl (zl rfl (zl rfl (zl rfl (zl rfl (zD rfl)))))))
   have hlH:=v.pre.len
   have a:=v.b1
   have hl1:=(zd.1 a).1
   refine⟨l.length - (n+1),by omega,n+1,.tl (H.length+5) 0,.tl (H.length+6) 0,by omega,⟨p0.set (zo _) rfl,?_,?_,.inr ⟨H.length+5,0,H.length+6,0,by omega,by omega,rfl,rfl,?_,?_⟩⟩,t4,rfl,rfl,W,R,qf (by omega) rfl,rfl⟩
   ·rw[g];exact zm (d _)
   ·rw[zc (by omega)];exact ze a
   ·rw[zc (by omega),g,zw,g1,zG (k:=5) rfl];rfl
   ·rw[zc (by omega),g,zw,g2,zG (k:=6) rfl];rfl
  ·have I:∀M,(H++M)[i]? =some (.row 71 4 (A.map xN) st):=λM=>ze E
   have β:∀M,(H++M)[j]? =some (.row 92 1 (K.map kvr) Q):=λM=>ze J
   have ξ:i≠j:=λe=>by rw[e,J] at E;injection E with E;injection E with z;exact absurd z (by decide)
   have D:∀M o,((H++M).set i o)[j]? =some (.row 92 1 (K.map kvr) Q):=λM o=>by rw[zc ξ];exact β M
   have θ:∀M o p,(((H++M).set i o).set j p)[h.length]? =some (Xq s x'):=λM o p=>by
    have z1:((H++M).set i o)[h.length]? =some (Xq s x'):=xq (h0:=H) (d M) (I M)
    exact xq (h0:=H) z1 (D M o)
   have ι:((A.map xN).length+1)*81<=140737488355328:=by rw[zb];omega
   have V:((K.map kvr).length+1)*25<=140737488355328:=by rw[zb];omega
   have hil:=(zd.1 E).1
   have hjl:=(zd.1 J).1
   have η:∀(C t u:Ob) M o',((H++(C::t::u::M)).set i o')[H.length+1]? =some t:=λC t u M o'=>by rw[zc (by omega),zG (k:=1) rfl];rfl
   have hs2:∀(C t u:Ob) M o',((H++(C::t::u::M)).set i o')[H.length+2]? =some u:=λC t u M o'=>by rw[zc (by omega),zG (k:=2) rfl];rfl
   have hs4:∀(C t u Y X:Ob) M o',((H++(C::t::u::Y::X::M)).set i o')[H.length+4]? =some X:=λC t u Y X M o'=>by rw[zc (by omega),zG (k:=4) rfl];rfl
   have U:∀(C t u Y X o' p:Ob),((H++[C,t,u,Y,X]).set i o').set (H.length+4) p=(H++[C,t,u,Y,p]).set i o':=λC t u Y X o' p=>by
    rw[List.set_comm _ _ (by omega),zU _ _ (by omega),show H.length+4 - H.length=4 by omega];rfl
   have hj1:∀(C t u:Ob) M o' ν,(((H++(C::t::u::M)).set i o').set j ν)[H.length+1]? =some t:=λC t u M o' ν=>by rw[zc (by omega),η]
   simp only[go_sem,t2,t7,t8,G,P,d,I,β,D,θ,ι,V,η,hs2,hs4,U,hj1]
   have p0:Pre h (H++[Ob.box 79 (ym q),Xq s x2,.box 71 (xN w),.row 71 4 [xN w] 0,.row 92 1 [kvr k] 0]):=v.pre.app (zl rfl (zl rfl (zl rfl (zl rfl (zD rfl)))))
   have a:=v.b1
   have γ:∀M o,((H++M).set i o)[h.length+1]? =some zC:=λM o=>xq (h0:=H) (ze a) (I M)
   have ζ:∀M o p,(((H++M).set i o).set j p)[h.length+1]? =some zC:=λM o p=>xq (h0:=H) (γ M o) (D M o)
   have τ:i≠h.length:=λe=>by rw[e,F] at E;cases E
   have ψ:j≠h.length:=λe=>by rw[e,F] at J;cases J
   refine⟨l.length - (n+1),by omega,n+1,.tl i (st+1),.tl j (Q+1),by omega,⟨((p0.set u1 rfl).set Z rfl).set (zo _) rfl,?_,?_,.inr ⟨i,st+1,j,Q+1,u1,Z,rfl,rfl,?_,?_⟩⟩,t4,rfl,rfl,W,R,qf (by omega) rfl,rfl⟩
   ·rw[g];exact zm (θ _ _ _)
   ·rw[zc (by omega)];exact ζ _ _ _
   ·rw[zc (λe=>τ e.symm),zc (λe=>ξ e.symm),g,zw];exact zm (I _)
   ·rw[zc (λe=>ψ e.symm),g,zw];exact zm (D _ _)
 ·have hge:=j9 e
  have hn2:n=l.length:=by omega
  subst hn2
  rw[zP] at v
  have F:=v.b0
  have a:=v.b1
  simp only[go_sem,t2,t4,t7,t8,F,a,P]
  obtain⟨L,hL,hN⟩:=v.pre.set (i:=h.length+1) (by omega) (o:=Xq s (xU s x l).1) rfl
  have hg:=zm (b:=Xq s (xU s x l).1) a
  have ρ:TwoS h (h++L) y z ((xU s x l).2.1.map xN) ((xU s x l).2.2.map kvr):=by
   rw[<-hL]
   rcases v.two with z1|⟨i,st,j,Q,u1,Z,e1,e2,E,J⟩
   ·exact .inl z1
   ·refine .inr ⟨i,st,j,Q,u1,Z,e1,e2,?_,?_⟩
    ·rw[zc (λe=>by rw[e,E] at a;cases a)];exact E
    ·rw[zc (λe=>by rw[e,J] at a;cases a)];exact J
  have O:AV.one y=true/\AV.one z=true:=by
   rcases v.two with⟨rfl,rfl,_⟩|⟨i,st,j,Q,u1,Z,rfl,rfl,E,J⟩<;>exact⟨rfl,rfl⟩
  obtain⟨f1,f2⟩:=ρ.frz (xha _) (yha _)
  refine⟨.tup [CV s (xU s x l).1,y,z],by simp only[go_sem,hg,t4,P,O.1,O.2],.inl ⟨L,hL,hN,?_⟩⟩
  exact .tup (.cons (.lt Vca) (.cons f1 (.cons f2 .nil)))
theorem xyb(h:List Ob)(s:Setup)(f:SFit s)(a:z6 s=true)(x:Ch)(g:ChI s x)(c:AV)(l:List Cm)(d:SlOf h c 16 (l.map ym))(e:l.length<1048576)(b:s.rates.length<4096):
  ACalls Tryz.prog 34 [CV s x,c] h λr h'=>r= .tup [CV s (xU s x l).1,.sl 4 ((xU s x l).2.1.map xN),.sl 1 ((xU s x l).2.2.map kvr)]/\h'=h:=
 X6 (qrb h s f a x g c l d e b)
def Yga:AV:= .ag (jL zS zA jF jF jF)
theorem YQa(h:List Ob)(s:Setup)(a:SA)(k:SIn h s a)(f:SFit s):
  ACalls Tryz.prog 32 [je s a] h λr h'=>r= .tup [if z6 s then CV s z0a else Yga,i64 (if z6 s then 0 else 70)]/\h'=h:=by
 refine wP (R:=λr h'=>r= .tup [if z6 s then .ag (jL s (frA s) (BX Kx) (BC Kx) nl) else Yga,i64 (if z6 s then 0 else 70)]/\h'=h) ?_ ?_
 ·refine zi Tryz.f32 [.cell 2 83,.tmp 3] 14 rfl rfl rfl rfl rfl rfl (by decide) (⟨_,_,⟨rfl,rfl⟩,.refl⟩) λB=>?_
  simp only[go_sem,k.ones]
  refine zg (xfb _ s a (k.app _) f) ?_
  rintro _ e ⟨rfl,b⟩
  rw[b]
  have c:=(frM s h).ones
  cases d:z6 s
  ·simp only[go_sem,xeb,zA,jF]
   refine zn ?_<;>(simp only[go_sem,Yga,zA,jF]<;>try rfl)
  ·simp only[go_sem,c]
   refine Xt ?_ ?_
   ·simp only[go_sem,c]
   ·simp only[frA,AV.lt,qy,Qp,Qq,Zf,wJ,vE,if_true,Bool.and_self]
 ·rintro r h' ⟨rfl,b⟩
  refine⟨_,⟨rfl,b⟩,?_⟩
  cases z6 s
  ·exact .refl _
  ·refine .two (.ag ?_) (.refl _)
   exact WeakL.app ((jL s (frA s) (BX Kx) (BC Kx) nl).take 25) (.cons (.nil 27) (.refl []))
theorem qsb(h:List Ob)(l:List Ky)(y:AV)(g:SlOf h y 2 (l.map jm))(n:l.length<1099511627776):
  ACalls Tryz.prog 169 [KV l,y] h λr h'=>r=bl true/\h'=h:=by
 have a:=g.rows
 have j:=g.one
 refine zi Tryz.f169 [.tmp 4] 26 rfl rfl rfl rfl rfl rfl (by decide) (⟨_,_,⟨rfl,rfl⟩,.refl⟩) λB=>?_
 simp only[go_sem,a,j,zb,bne_self_eq_false]
 refine zI (by decide) (λm T h'=>h'=h/\∃k:Nat,k<=l.length/\T 0=KV l/\T 1=y/\T 5=i64 k/\m=l.length - k) l.length
  ⟨rfl,0,by omega,by simp only[go_sem],by simp only[go_sem],by(simp only[go_sem]<;>rfl),rfl⟩ ?_
 rintro m T h' ⟨rfl,k,o,t0,t1,t5,rfl⟩
 simp only[go_sem,t5,t0,zb]
 refine ways (λe=>?_) (λe=>?_)
 ·have c:=dlt e
  have b:=xH jm c
  have f:=g.at (i:=k) (by simpa using c)
  have d:(k:Int)<l.length:=by omega
  simp only[go_sem]
  refine zL rfl [] 0 [(0,0,[]),(1,0,[]),(4,0,[]),(5,0,[]),(2,0,[]),(3,0,[]),(6,0,[]),(7,0,[]),(8,0,[])] rfl (by decide) (by decide) ?_
  simp only[go_sem,t5,t0,t1,b,d,f,a,jm,zb,Int.toNat_natCast,zh,beq_self_eq_true,Bool.and_self,Bool.not_true,qt,bne_self_eq_false]
  exact⟨l.length - (k+1),by omega,k+1,by omega,qf (by omega) rfl,rfl⟩
 ·simp only[go_sem]
  refine zn ?_<;>(simp only[go_sem]<;>try rfl)
theorem Yha(h:List Ob)(ks:List (List Ky))(ys:List AV)(y:AV)(s:SlOf h y 1 (ys.map λv=>[v]))(t:ys.length=ks.length)(u:∀(i:Nat) (x:i<ks.length) (D:i<ys.length),SlOf h ys[i] 2 (ks[i].map jm))(C:∀l∈ks,l.length<1099511627776)(E:ks.length<1099511627776):
  ACalls Tryz.prog 87 [.sl 1 (ks.map kvr),y] h λr h'=>r=bl true/\h'=h:=by
 have g:=s.rows
 have p:=s.one
 refine zi Tryz.f87 [.tmp 4] 29 rfl rfl rfl rfl rfl rfl (by decide) (⟨_,_,⟨rfl,rfl⟩,.refl⟩) λB=>?_
 simp only[go_sem,g,p,t,zb,bne_self_eq_false]
 refine zI (by decide) (λm T h'=>h'=h/\∃k:Nat,k<=ks.length/\T 0= .sl 1 (ks.map kvr)/\T 1=y/\T 5=i64 k/\m=ks.length - k) ks.length
  ⟨rfl,0,by omega,by simp only[go_sem],by simp only[go_sem],by(simp only[go_sem]<;>rfl),rfl⟩ ?_
 rintro m T h' ⟨rfl,k,w,t0,t1,t5,rfl⟩
 simp only[go_sem,t5,t0,zb]
 refine ways (λe=>?_) (λe=>?_)
 ·have f:=dlt e
  have a:k<ys.length:=by omega
  have d:=xH kvr f
  have b:=xH (λv:AV=>[v]) a
  have o:=s.at (i:=k) (by simpa using a)
  have n:(k:Int)<ks.length:=by omega
  have c:=u k f a
  have j:=C _ (zy f)
  obtain⟨L,z⟩:∃L,L=ks[k]:=⟨_,rfl⟩
  obtain⟨v,A⟩:∃v,v=ys[k]:=⟨_,rfl⟩
  rw[<-z] at d c j
  rw[<-A] at b c
  have q:=c.one
  simp only[go_sem]
  refine zL rfl [] 0 [(0,0,[]),(1,0,[]),(4,0,[]),(5,0,[]),(2,0,[]),(3,0,[]),(6,0,[]),(7,0,[]),(8,0,[]),(9,0,[])] rfl (by decide) (by decide) ?_
  simp only[go_sem,t5,t0,t1,d,b,t,n,o,g,q,kvr,zb,Int.toNat_natCast,zh]
  refine zg (qsb _ L v c j) ?_
  rintro _ x ⟨rfl,rfl⟩
  simp only[go_sem,t5]
  exact⟨ks.length - (k+1),by omega,k+1,by omega,t0,t1,qf (by omega) rfl,rfl⟩
 ·simp only[go_sem]
  refine zn ?_<;>(simp only[go_sem]<;>try rfl)
theorem Yia:SFit s3:=⟨by simp[Fit,s3],by simp[jq,Fit,s3],by simp[jq,Fit,s3],by simp[jq,Fit,s3],by simp[jq,Fit,s3],by simp[jq,Fit,s3],by simp[s3],by simp[s3],by simp[s3],by simp[s3],by simp[s3],by simp[s3]⟩
def H3(n:Nat):List Ob:=[.box 30 (qg s3 (a2 n)),.box 24 (jH (1,1)),.row 183 4 (s3.elements.map JF) 0,.row 24 2 (s3.classes.map jH) 0,.row 24 2 (s3.gears.map jH) 0,.row 3 1 (s3.rates.map qn) 0]
theorem pl3(h:List Ob):ACalls Tryz.prog 86 [] h λr h'=>r=je s3 (a2 h.length)/\h'=h++H3 h.length:=by
 refine zi Tryz.f86 [.cell 0 30] 14 rfl rfl rfl rfl rfl rfl (by decide) (⟨_,_,⟨rfl,rfl⟩,resK_app⟩) λB=>?_
 simp only[go_sem]
 exact⟨je s3 (a2 h.length),by(simp only[go_sem]<;>rfl),.inl ⟨rfl,rfl⟩⟩
theorem kyb(h:List Ob):SIn (h++H3 h.length) s3 (a2 h.length):=
 ⟨ZS,ZR (by rw[zG (k:=2) rfl];rfl),ZR (by rw[zG (k:=3) rfl];rfl),ZR (by rw[zG (k:=4) rfl];rfl),ZR (by rw[zG (k:=5) rfl];rfl),ZS⟩
theorem xi3:ChI s3 ⟨⟨[qpa],[0]⟩,[rB3,rC3]⟩:=by
 have:=z8a l3 (z1a s3)
 rw[Ju] at this
 exact this
theorem xzb:∃(c RB a:RW) (b:List Int) (A:List An),xU s3 z0a l3=(⟨⟨[qpa],[0]⟩,[RB,a]⟩,A,ks3)/\A.map xN=[[i64 0,.sl 27 [q9 c],.sl 5 [],.sl 1 []],[i64 0,.sl 27 [q9 c],.sl 5 [],.sl 1 []],xN (wt 0),[i64 0,.sl 27 [q9 RB],.sl 5 [],.sl 1 []],xN (wt 0),[i64 0,.sl 27 [q9 RB,q9 a],.sl 5 [],.sl 1 (b.map xv)]]/\RB.1.total=1500/\a.1.worker=1/\Jt [RB,a] (1,0)=a/\isH [RB,a] (1,0)=true/\isH [RB,a] (1,1)=false/\ChI s3 ⟨⟨[qpa],[0]⟩,[RB,a]⟩:=
 ⟨rA3,rB3,rC3,xpb,an3,Ju,rfl,qdb,xqb,ksb,is3,ktb,xi3⟩
theorem ChI.len3{s:Setup}{x:Ch}(i:ChI s x)(a:s.rates.length<4096):x.rows.length<300000:=by
 have:=i.len
 have:s.rates.length*53<=4096*53:=Nat.mul_le_mul_right _ (by omega)
 omega
theorem YRa{s:Setup}(f:SFit s)(a:s.rates.length<4096){x:Ch}(i:ChI s x)(h:List Ob)(k:Ky):ACalls Tryz.prog 38 [CV s x,.ag (jm k)] h λr h'=>r= .tup [.ag (q9 (Jt x.rows k)),bl (isH x.rows k)]/\h'=h:=
 KUa h s (frA s) (frM s h) (BX x.bk) (BC x.bk) (RX x) rfl rfl x.rows k ⟨rfl,λ_=>rfl⟩ i.srt (by have:=i.len3 a;omega) (i.fl f)
set_option maxHeartbeats 4000000 in
theorem kBb:xA Tryz.prog 31 [] (bl true):=λh=>by
 refine zi Tryz.f31 [.tmp 0] 131 rfl rfl rfl rfl rfl rfl (by decide) (⟨_,_,⟨rfl,rfl⟩,.refl⟩) λB=>?_
 simp only[go_sem]
 refine zg (pl3 _) ?_
 rintro _ f ⟨rfl,r⟩
 have k:=kyb h
 rw[<-r] at k
 have p:Pre h f:=⟨_,r,λo c=>by
  simp only[H3,zx,List.not_mem_nil,or_false] at c
  rcases c with rfl|rfl|rfl|rfl|rfl|rfl<;>rfl⟩
 have z:∀M,SIn (f++M) s3 (a2 h.length):=λM=>k.app M
 simp only[go_sem]
 refine zg (YQa _ s3 (a2 h.length) k Yia) ?_
 rintro _ b ⟨rfl,a⟩
 rw[a,if_pos ok3,if_pos ok3]
 clear a b
 have c:=(yI (h:=h) s3).ones
 obtain⟨C,RB,v,x,A,j,n,e,d,g,q,m,u⟩:=xzb
 simp only[go_sem,c]
 refine zg (xyb _ s3 Yia ok3 z0a (z1a s3) _ l3 (ZR (ty:=79) (st:=0) (by rw[zG (k:=3) rfl];rfl)) (by decide) (by decide)) ?_
 rintro _ b ⟨rfl,a⟩
 rw[a,j,n]
 clear a b
 simp only[go_sem,c]
 refine zg (YQa _ zS zA (kpb _) kqb) ?_
 rintro _ b ⟨rfl,a⟩
 rw[a,okz]
 clear a b
 simp only[go_sem,c,Yga,zA,jF]
 refine zg (YRa Yia (by decide) u _ (1,0)) ?_
 rintro _ b ⟨rfl,a⟩
 rw[a,show isH _ _=true from q,show Jt _ _=v from g]
 clear a b
 simp only[go_sem,c,q9,ve,List.cons_append,List.nil_append]
 refine zg (YRa Yia (by decide) u _ (1,1)) ?_
 rintro _ b ⟨rfl,a⟩
 rw[a,show isH _ _=false from m]
 clear a b
 simp only[go_sem,c,q9,ve,List.cons_append,List.nil_append,xN,wt,List.map_nil,List.map_cons,e,d,bne_self_eq_false,beq_self_eq_true,qt,Bool.not_false,Bool.not_true]
 rw[show(((List.map kvr ks3).length:Int) != 6)=false from rfl]
 simp only[go_sem,c,q9,ve,List.cons_append,List.nil_append,xN,wt,List.map_nil,List.map_cons,e,d,bne_self_eq_false,beq_self_eq_true,qt,Bool.not_false,Bool.not_true]
 refine zg (Yha _ ks3 [.tl (f.length+7) 0,nl,.tl (f.length+7) 0,nl,nl,.tl (f.length+8) 0] _ (ZR (ty:=92) (st:=0) (by rw[zG (k:=9) rfl];rfl)) rfl (λi s y=>?_) (λl t=>?_) (by decide)) ?_
 ·have s:i<6:=s
  match i with
  | 0=>exact ZR (ty:=90) (st:=0) (by rw[zG (k:=7) rfl];rfl)
  | 1=>exact ZS
  | 2=>exact ZR (ty:=90) (st:=0) (by rw[zG (k:=7) rfl];rfl)
  | 3=>exact ZS
  | 4=>exact ZS
  | 5=>exact ZR (ty:=90) (st:=0) (by rw[zG (k:=8) rfl];rfl)
 ·simp only[ks3,zx,List.not_mem_nil,or_false] at t
  rcases t with rfl|rfl|rfl|rfl|rfl|rfl<;>decide
 rintro _ b ⟨rfl,a⟩
 rw[a]
 clear a b
 simp only[go_sem,c,q9,ve,List.cons_append,List.nil_append,List.map_nil,List.map_cons,e,d,bne_self_eq_false,beq_self_eq_true,qt,Bool.not_false,Bool.not_true]
 obtain⟨L,w,_⟩:=p
 rw[w,zt]
 refine zn ?_<;>(simp only[go_sem]<;>try rfl)
theorem kzb(h:List Ob)(s:Setup)(a:SA)(k:SIn h s a)(x:AV)(l:List Cm)(f:SlOf h x 16 (l.map ym)):ACalls Tryz.prog 33 [je s a,x] h λr h'=>r=bl (zoa s && decide (l.length<=40))/\h'=h:=by
 refine zi Tryz.f33 [.tmp 4] 12 rfl rfl rfl rfl rfl rfl (by decide) (⟨_,_,⟨rfl,rfl⟩,.refl⟩) λB=>?_
 simp only[go_sem,k.w.one,k.e.one,k.c.one,k.g.one,k.r.one,k.t.one]
 refine zg (c25 _ s a (k.app _)) ?_
 rintro _ m ⟨rfl,j⟩
 subst j
 have i:∀M,qa (h++M) x=_:=λM=>(f.app M).rows
 have d:decide ((l.length:Int)<=40)=decide (l.length<=40):=decide_eq_decide.2 (by omega)
 cases b:zoa s with
 | false=>
   simp only[go_sem,b,qt]
   refine zn ?_<;>(simp only[go_sem,b,Bool.false_and]<;>try rfl)
 | true=>
   simp only[go_sem,b,qt,i,zb,d]
   refine zn ?_<;>(simp only[go_sem,b,Bool.true_and]<;>try rfl)
theorem xAb(h:List Ob)(s:Setup)(f:SFit s)(g:SFew s)(b:s.rates.length<4096)(x:Ch)(i:ChI s x):ACalls Tryz.prog 40 [CV s x,CV s x] h λr h'=>r=bl true/\h'=h:=by
 have c:=(frM s h).ones
 refine zi Tryz.f40 [.tmp 4] 21 rfl rfl rfl rfl rfl rfl (by decide) (⟨_,_,⟨rfl,rfl⟩,.refl⟩) λB=>?_
 simp only[go_sem,c]
 refine zg (qcb _ s g x.bk i.bk) ?_
 rintro _ d ⟨rfl,a⟩
 rw[a]
 simp only[go_sem,c]
 refine zg (KNa _ x.rows (by have:=i.len3 b;omega) (i.fl f)) ?_
 rintro _ d ⟨rfl,a⟩
 rw[a]
 simp only[go_sem,qt]
 refine zn ?_<;>(simp only[go_sem]<;>try rfl)
