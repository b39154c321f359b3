import Derived.Test.YtigdlmpjijhpaaaGreatKA
import Derived.Test.YtigdlmpjijhpaaaGreatK39
import Derived.Test.YtigdlmpjijhpaaaGreatK40
import Derived.Test.YtigdlmpjijhpaaaGreatK33
import Derived.Test.YtigdlmpjijhpaaaGreatK41
import Derived.Test.YtigdlmpjijhpaaaGreatK36
import Derived.Test.YtigdlmpjijhpaaaGreatK20
import Derived.Test.YtigdlmpjijhpaaaGreatK23
set_option linter.all false
namespace Go.Proofs.YtigdlmpjijhpaaaGreat.Ax
open Go Go.RowKit
def Xja(P:Program)(o:Oper)(K:Env->List Ob->Prop)(X:List PanicEntry->Env->List Ob->Prop)(T:Env)(h:List Ob):Prop:=match qx o.op with
 | some (x,args)=> @VV P (ev T x) (evl T args) h ⟨λr h'=>K (qK T o.dst r) h'⟩ ⟨λa h'=>X a T h'⟩
 | none=>False
section
variable {P:Program} {N:Nat} {B:Bs} {ops:Array Oper} {T:Env} {h:List Ob} {o:Oper} {Q:jA}
theorem w1a{φ:Nat->Ob}(S:Upto φ h.length)(hd:kC N o=true){K:Env->List Ob->Prop}{X:List PanicEntry->Env->List Ob->Prop}(k:Xja P o K X T h){w:World}{g:Gh}{a:Act}(r:Rel N B w g (fill φ h) a T){next:Act->World->Prop}{Y:Exit->Act->World->Prop}
  (W:∀z h' w' A,K z h'->Aft N B φ w g h z h' A w'->next A w') (Z:∀F z h' w' A,X F z h'->Aft N B φ w g h z h' A w'->Y (.panic F) A w'):o.wp P a w next Y:=by
 unfold Xja at k
 split at k
 ·rename_i X args x
  have c:∃l j,o.op= .call ⟨.value X,l,j⟩/\l.toList=args:=by
   unfold qx at x
   split at x
   ·rename_i X' l j I
    injection x with x
    injection x with h1 h2
    subst h1
    exact⟨l,j,I,h2⟩
   ·cases x
  obtain⟨l,j,c,has⟩:=c
  subst has
  unfold VV at k
  split at k
  ·rename_i f R cs U
   obtain⟨k1,k2⟩:=k
   have G:=jC r.t X
   rw[U] at G
   obtain⟨us,vs,M,J,e3⟩:=G
   have p:ARs (ctx w g (fill φ h)) (R++evl T l.toList++cs) (us.toList++l.toList.map a.eval++vs.toList):=jY (jY J (ZK r.t _)) e3
   have u:=k2 φ S B.b w g _ r.ok r.hB p
   have s:∃fn,P.funcs[f]? =some fn/\fn.name≠ "runtime.NumGoroutine" /\fn.body.isSome=true:=by
    unfold JF at k1
    split at k1
    ·rename_i fn s
     simp only[zj,bne_iff_ne,ne_eq] at k1
     exact⟨fn,s,k1.1,k1.2⟩
    ·cases k1
   obtain⟨fn,H,f2,L⟩:=s
   have f5:(fn.name== "runtime.NumGoroutine")=false:=by simpa using f2
   have O:fn.body.isNone=false:=by cases V:fn.body<;>simp[V] at L⊢
   have y:(execOp a.eval o).run P w= .ok (.enter f (us.toList++l.toList.map a.eval++vs.toList).toArray) w:=by
    obtain⟨dst,op,type,pos,after,guard⟩:=o
    simp only at c
    subst c
    simp only[execOp,resolve,M,Deferred.ofValue,Sem.run_bind,Sem.run_pure,Result.andThen_ok,invoke,callFunc,run_program,H,O,f5,Bool.false_eq_true,if_false]
    simp
   unfold Oper.wp
   rw[y]
   refine Calls.mono u λe w' q=>?_
   rcases q with⟨v,rr,h',g',E,C,D,m,Q⟩|⟨F,h',g',E,C,D,m⟩
   ·subst E
    exact W _ _ _ _ C ⟨g',D,kv r m Q hd,m⟩
   ·subst E
    exact Z _ _ _ _ _ C ⟨g',D,⟨m.ok,m.size,λi=>AR.le m.le _ _ (r.t i),r.d,r.n⟩,m⟩
  ·exact k.elim
 ·exact k.elim
theorem w2a{dst:Option Tmp}{x:Operand}{args:Array Operand}{a:Array TypeId}{ty:TypeId}{pos:String}{after:Array Edge}{c:Option (Nat × Bool)}{K:Env->List Ob->Prop}{X:List PanicEntry->Env->List Ob->Prop}:
  Xja P ⟨dst,.call ⟨.value x,args,a⟩,ty,pos,after,c⟩ K X T h= @VV P (ev T x) (evl T args.toList) h ⟨λr h'=>K (qK T dst r) h'⟩ ⟨λb h'=>X b T h'⟩:=id rfl
theorem j3a{id:Nat}(l:List Oper)(o:Oper)(l2:List Oper)(m:ops.toList=l++o::l2)(z:o.guard=none)(d:(ops.toList.all (kC N))=true)(k:wpR P ops (Xja P o (λT h=>wpR P ops (Q .normal) l2 T h) λu=>Q (.panic u)) l T h):AWp P N B (.region id ops false) Q T h:=λφ i w g a r=>by
 rw[m,List.all_append,zj,List.all_cons,zj] at d
 refine(wpIn_wide (n:=0)).1 (wpIn_region ?_)
 rw[List.range_eq_range', <-qP,wpOpsIn_eq_wpListIn ops.toList 0 (by simp),m]
 refine Xs l d.1 i (VL _ k) r λI h' w' J k' q=>?_
 unfold wpListIn
 rw[if_pos (by simp[Region.wanted,z])]
 have b:=q.len
 obtain⟨g',s,x,j⟩:=q
 refine xX 0 (w1a (i.mono b) d.2.1 k' x (λt p F a2 f c=>?_) λu t p F a2 f c=>⟨t,p,f,c.trans s j⟩)
 have e:=c.len
 obtain⟨H,G,A,v⟩:=c
 exact yr l2 d.2.2 (i.mono (Nat.le_trans b e)) (VL _ f) A λE y K a3 D C=>⟨E,y,D,(C.trans G v).trans s j⟩
end
attribute [go_sem] w2a
end Go.Proofs.YtigdlmpjijhpaaaGreat.Ax
namespace Go.Proofs.YtigdlmpjijhpaaaGreat.Ax
open Go Go.Proofs
set_option maxRecDepth 100000
abbrev wS(cs:List AV):Ob:= .box 45 cs
def setR(cs:List AV)(o:Nat):List Int->List AV
 | []=>cs
 | t::a=>setR (cs.set o (i64 t)) (o+1) a
theorem QX:∀ {a:List Int} {cs:List AV} {o:Nat},(setR cs o a).length=cs.length
 | [],_,_=>rfl
 | t::a,cs,o=>by rw[setR,QX,zP]
theorem Kv:∀ {b:List Int} {cs:List AV} {o:Nat} {t:Int},setR cs o (b++[t])=(setR cs o b).set (o+b.length) (i64 t)
 | [],cs,o,t=>rfl
 | a::b,cs,o,t=>by
   rw[List.cons_append,setR,setR,Kv,List.length_cons,show o+1+b.length=o+(b.length+1) by omega]
structure StR (h:List Ob) (j i:Nat) (cs:List AV) (b:List Int) (H:List Ob):Prop where
 eq:∃L,H=((h.set j (wS cs)).set i (vu (.sl 1 (b.map qN))))++L/\NoRes L
section
variable {h H:List Ob} {j i:Nat} {cs:List AV} {b:List Int}
theorem StR.app(k:StR h j i cs b H){M:List Ob}(a:NoRes M):StR h j i cs b (H++M):=by
 obtain⟨L,k1,k2⟩:=k.eq
 exact⟨L++M,by rw[k1,zn],k2.app a⟩
theorem StR.row(k:StR h j i cs b H)(a:j≠i)(c:j<h.length):H[j]? =some (wS cs):=by
 obtain⟨L,k1,k2⟩:=k.eq
 rw[k1]
 exact zf (by rw[zc (Ne.symm a),zm c])
theorem StR.eye(k:StR h j i cs b H)(hi:i<h.length):H[i]? =some (vu (.sl 1 (b.map qN))):=by
 obtain⟨L,k1,k2⟩:=k.eq
 rw[k1]
 exact zf (zm (by rw[zP];exact hi))
theorem StR.setj(k:StR h j i cs b H)(a:j≠i)(c:j<h.length)(cs':List AV):StR h j i cs' b (H.set j (wS cs')):=by
 obtain⟨L,k1,k2⟩:=k.eq
 refine⟨L,?_,k2⟩
 rw[k1,qV _ _ (by rw[zP,zP];exact c),List.set_comm _ _ (Ne.symm a),qh]
theorem StR.seti(k:StR h j i cs b H)(hi:i<h.length)(a:List Int):StR h j i cs a (H.set i (vu (.sl 1 (a.map qN)))):=by
 obtain⟨L,k1,k2⟩:=k.eq
 refine⟨L,?_,k2⟩
 rw[k1,qV _ _ (by rw[zP,zP];exact hi),qh]
theorem StR.setL(k:StR h j i cs b H){m:Nat}(c:h.length<=m){o:Ob}(d:o.isRes=false):StR h j i cs b (H.set m o):=by
 obtain⟨L,k1,k2⟩:=k.eq
 refine⟨L.set (m - h.length) o,?_,λq a=>?_⟩
 ·rw[k1,zR _ _ (by rw[zP,zP];exact c),zP,zP]
 ·rcases List.mem_or_eq_of_mem_set a with a|rfl
  ·exact k2 q a
  ·exact d
theorem StR.len(k:StR h j i cs b H):h.length<=H.length:=by
 obtain⟨L,k1,_⟩:=k.eq
 rw[k1,ze,zP,zP]
 omega
def FrR(j i:Nat)(h h':List Ob):Prop:=∀(m:Nat) (o:Ob),m≠i->m≠j->h[m]? =some o->h'[m]? =some o
theorem StR.fr(k:StR h j i cs b H):FrR j i h H:=λm o d a c=>by
 obtain⟨L,k1,_⟩:=k.eq
 rw[k1]
 exact zf (by rw[zc (Ne.symm d),zc (Ne.symm a)];exact c)
end
theorem WX{h H:List Ob}{j i:Nat}{cs:List AV}{b:List Int}(k:StR h j i cs b H)(l:j≠i)(F:j<h.length)(hi:i<h.length)(A:cs.length=27)(I:By b)(B:b.length<1099511627776)(z:AV)(c:List (Nat × Nat))(D:SlOf H z 1 (c.map λp=>[.ptr p.1 p.2]))(v:∀p∈c,(p.1=j/\p.2<27)∨(h.length<=p.1/\∃ty cs,H[p.1]? =some (.box ty cs)/\p.2<cs.length))(w:c≠[])(t:c.length<1048576):
  PCalls Tryz.prog 50 [.ptr i 0,z] H (λr h'=>r= .tup []/\∃ns u,qW c.length b=some (ns,u)/\h'=(wZ H c ns).set i (vu (.sl 1 (u.map qN)))) (λy h'=>y=[J4]/\qW c.length b=none/\FrR j i h h'):=by
 have g:∀p∈c,p.1≠i:=λp f=>by
  rcases v p f with a|a
  ·rw[a.1];exact l
  ·omega
 have d:=zda (i:=i) (b:=b) (H:=H) g w
 refine(Qca H i _ z b c (k.eye hi) ⟨rfl,λ_=>rfl⟩ I B D (λp f=>⟨g p f,?_⟩) t).mono ?_ ?_
 ·rcases v p f with⟨a,n⟩|⟨_,n⟩
  ·exact⟨_,cs,by rw[a];exact k.row l F,by rw[A];exact n⟩
  ·exact n
 ·rintro r h' ⟨rfl,u,a,_⟩
  rw[d] at a
  obtain⟨q,G,s⟩:=Option.map_eq_some_iff.1 a
  injection s with s q3
  subst s q3
  exact⟨rfl,q.1,q.2,G,rfl⟩
 ·rintro y h' ⟨rfl,a,n⟩
  rw[d] at a
  refine⟨rfl,Option.map_eq_none_iff.1 a,λm o x E z3=>n m o x (λp f e=>?_) (k.fr m o x E z3)⟩
  rcases v p f with⟨C,_⟩|⟨C,_⟩
  ·omega
  ·have:=(zd.1 z3).1
   omega
theorem j4a:∀ {a:List Int} {cs:List AV} {o m:Nat},m<o∨o+a.length<=m->(setR cs o a)[m]? =cs[m]?
 | [],cs,o,m,_=>rfl
 | t::a,cs,o,m,h=>by
   rw[List.length_cons] at h
   rw[setR,j4a (by omega),zc (by omega)]
def xE(a:AV):List AV:=[i64 0,i64 0,i64 0,i64 0,i64 0,i64 0,i64 0,i64 0,i64 0,i64 0,i64 0,i64 0,i64 0,i64 0,i64 0,i64 0,i64 0,i64 0,i64 0,i64 0,i64 0,i64 0,i64 0,i64 0,i64 0,i64 0,a]
def K2a(cs:List AV)(a b c d e t f g k:Int):List AV:=((((((((cs.set 17 (i64 a)).set 18 (i64 b)).set 19 (i64 c)).set 20 (i64 d)).set 21 (i64 e)).set 23 (i64 f)).set 24 (i64 g)).set 25 (i64 k)).set 22 (i64 (IntKind.wrap .i64 (t - 1)))
theorem vua{H:List Ob}{j o:Nat}{X:List AV}{n:Int}{u:Ob}(a:H[j]? =some u):wY (H.set j (wS X)) (j,o) n=H.set j (wS (X.set o (i64 n))):=by
 rw[kB (p:=(j,o)) (zq a),qh]
theorem Qwa{H:List Ob}{j m o:Nat}{X:List AV}{n:Int}{u v:Ob}(b:H[j]? =some u)(a:m≠j):wY ((H.set j (wS X)).set m v) (j,o) n=(H.set j (wS (X.set o (i64 n)))).set m v:=by
 rw[kB (p:=(j,o)) (by rw[zc a];exact zq b),List.set_comm _ _ a,qh]
theorem Wza{l:List Int}(h:l.length=3):∃a b c,l=[a,b,c]:=by
 match l,h with
 | [a,b,c],_=>exact⟨a,b,c,rfl⟩
theorem WAa{l:List Int}(h:l.length=1):∃a,l=[a]:=by
 match l,h with
 | [a],_=>exact⟨a,rfl⟩
theorem YCa{l:List Int}(h:l.length=9):∃a b c d e t f g k,l=[a,b,c,d,e,t,f,g,k]:=by
 match l,h with
 | [a,b,c,d,e,t,f,g,k],_=>exact⟨a,b,c,d,e,t,f,g,k,rfl⟩
theorem Jm{k m:Nat}{b:List Int}(h:qW k b=none):qW (k+m) b=none:=by rw[vo,h];rfl
theorem ZI:∀ {k:Nat} {b ns r:List Int},By b->qW k b=some (ns,r)->r.length<=b.length
 | 0,b,ns,r,c,h=>by injection h with h;injection h with d a;rw[<-a];exact zo _
 | k+1,b,ns,r,c,h=>by
   rw[qW] at h
   split at h
   ·cases h
   ·rename_i n l f
    obtain⟨q,d,a⟩:=Option.map_eq_some_iff.1 h
    injection a with a h3
    obtain⟨g,j,e⟩:=zaa c f
    have i:=ZI (ns:=q.1) (r:=q.2) e d
    rw[h3] at i
    rw[g,ze]
    omega
theorem WY{k:Nat}{b ns r:List Int}{t:Int}{a:List Int}(h:qW k b=some (ns,r))(c:qW 1 r=some ([t],a)):qW (k+1) b=some (ns++[t],a):=by
 rw[vo,h]
 simp only[Option.bind_some,c,Option.map_some]
set_option maxHeartbeats 4000000 in
theorem Xka(h:List Ob)(i j:Nat)(b:List Int)(y:AV)(s:j≠i)(hi:h[i]? =some (vu (.sl 1 (b.map qN))))(hj:h[j]? =some (wS (xE y)))(hb:By b)(hl:b.length<1099511627776):
  PCalls Tryz.prog 49 [.ptr j 0,.fn (.func 50) [.ptr i 0] []] h
   (λr h'=>r= .tup []/\∃ns b1 a C c d e t f g k rest,qW 17 b=some (ns,b1)/\qW 9 b1=some ([a,C,c,d,e,t,f,g,k],rest)/\StR h j i (K2a (setR (xE y) 0 ns) a C c d e t f g k) rest h')
   (λch h'=>ch=[J4]/\qW 26 b=none/\FrR j i h h'):=by
 have E:=(zd.1 hi).1
 have l:=(zd.1 hj).1
 have base:StR h j i (xE y) b h:=⟨[],by rw[zU,qX hj,qX hi],xr⟩
 refine Kq Tryz.f49 [] 90 rfl rfl rfl rfl rfl rfl λB=>?_
 have D:(2<(xE y).length)=True:=eq_true (by show 2<27;decide)
 have hn2:nth (xE y) 2=i64 0:=rfl
 refine qi (by decide) ?_
 simp only[go_sem,hj,D,hn2]
 refine qF (jr ?_)
 refine WF [_,_,_,_,_,_,_,_] _ rfl rfl [.res] 1 [(0,0,[]),(1,0,[]),(2,0,[]),(3,0,[]),(4,0,[]),(5,0,[]),(6,0,[]),(7,0,[])] rfl (by decide) (by decide) (by decide) (by decide) ?_
 simp only[go_sem]
 have k0:=base.app (M:=[.box 3 [i64 0],.row 109 1 [[.ptr j 0],[.ptr j 1],[.ptr h.length 0]] 0]) (zp rfl (zF rfl))
 obtain⟨H0,L⟩:∃H0,H0=h++[Ob.box 3 [i64 0],.row 109 1 [[.ptr j 0],[.ptr j 1],[.ptr h.length 0]] 0]:=⟨_,rfl⟩
 have γ:H0[h.length]? =some (.box 3 [i64 0]):=by rw[L,zM rfl];rfl
 have ω:SlOf H0 (.tl (h.length+1) 0) 1 ([(j,0),(j,1),(h.length,0)].map λp=>[.ptr p.1 p.2]):=vM (ty:=109) (by rw[L,zN (k:=1) rfl];rfl)
 rw[<-L] at k0
 have hl0:=k0.len
 rw[<-L]
 clear L
 refine vX (WX k0 s l E rfl hb hl _ [(j,0),(j,1),(h.length,0)] ω (λp O=>by
  simp only[zH,List.not_mem_nil,or_false] at O
  rcases O with rfl|rfl|rfl
  ·exact .inl ⟨rfl,by show 0<27;decide⟩
  ·exact .inl ⟨rfl,by show 1<27;decide⟩
  ·exact .inr ⟨zo _,_,_,γ,Nat.zero_lt_one⟩) (by simp) (by show 3<1048576;decide)) ?_ ?_
 rotate_left
 ·rintro ch h' ⟨rfl,h1,F⟩
  exact⟨rfl,Jm (m:=23) h1,F⟩
 rintro r h' ⟨rfl,ns,b1,Z,rfl⟩
 obtain⟨a,C,c,rfl⟩:=Wza (xm Z)
 have hb1:=yT hb Z
 have I:=k0.row s l
 have e1:wZ H0 [(j,0),(j,1),(h.length,0)] [a,C,c]=((H0.set j (wS (setR (xE y) 0 [a,C]))).set h.length (.box 3 [i64 c])):=by
  show wY (wY (wY H0 (j,0) a) (j,1) C) (h.length,0) c=_
  rw[kB (p:=(j,0)) I,kB (p:=(j,1)) (zq I),qh,kB (p:=(h.length,0)) (ty:=3) (cs:=[i64 0]) (by rw[zc (by omega)];exact γ)]
  rfl
 rw[e1]
 have k1:=((k0.setj s l (setR (xE y) 0 [a,C])).setL (m:=h.length) (zo _) (o:= .box 3 [i64 c]) rfl).seti E b1
 obtain⟨H1,σ⟩:∃H1,H1=(((H0.set j (wS (setR (xE y) 0 [a,C]))).set h.length (.box 3 [i64 c])).set i (vu (.sl 1 (b1.map qN)))):=⟨_,rfl⟩
 have he1:H1[h.length]? =some (.box 3 [i64 c]):=by
  rw[σ,zc (by omega)]
  exact zq (by rw[zc (by omega)];exact γ)
 rw[<-σ] at k1⊢
 clear σ e1 k0 γ ω hl0 I
 have Q:=k1.row s l
 have S:=Vl (cs:=setR (xE y) 0 [a,C]) (o:=2) (x:=i64 c) (by rw[QX];show 2<27;decide)
 simp only[go_sem]
 refine qF (qi (by decide) ?_)
 simp only[go_sem,Q,he1,S]
 have k2:=k1.setj s l ((setR (xE y) 0 [a,C]).set 2 (i64 c))
 obtain⟨H2,ρ⟩:∃H2,H2=H1.set j (wS ((setR (xE y) 0 [a,C]).set 2 (i64 c))):=⟨_,rfl⟩
 rw[<-ρ] at k2
 rw[<-ρ]
 clear ρ k1 he1 Q S
 have hb1l:=ZI hb Z
 refine qF (jr (qi (by decide) ?_))
 simp only[go_sem]
 refine qF (xW (Zo (λm T H=>∃(n:Nat) (A K:List Int),n<=7/\A.length=n/\qW (3+n) b=some ([a,C,c]++A,K)/\StR h j i (setR (xE y) 0 ([a,C,c]++A)) K H/\T 0= .ptr j 0/\T 1= .fn (.func 50) [.ptr i 0] []/\T 25=i64 n/\m=7 - n) 7
  ⟨0,[],b1,by omega,rfl,Z,k2,by simp only[go_sem],by simp only[go_sem],by(simp only[go_sem]<;>rfl),rfl⟩ ?_))
 clear k2 hb1l
 rintro m T H ⟨n,A,K,hn,α,w,V,t0,t1,t25,rfl⟩
 have U:=yT hb w
 have hbl:=ZI hb w
 refine qi (by decide) ?_
 simp only[go_sem,t25]
 refine qF (qi (by decide) ?_)
 simp only[go_sem]
 refine ways (λe=>?_) (λe=>?_)
 ·have υ:(n:Int)<7:=of_decide_eq_true e
  have D:n<7:=by omega
  simp only[go_sem]
  refine qF (jr (xW ?_))
  refine qi (by decide) ?_
  simp only[go_sem,t25]
  refine qF ?_
  refine Zs [_,_,_,_,_,_,_] _ rfl rfl (by decide) ?_
  simp only[go_sem,t0,t1,υ,D,Nat.mul_one,Int.toNat_natCast,zg]
  have u:=V.app (M:=[.row 109 1 [[.ptr j (3+n)]] 0]) (zF rfl)
  refine vX (WX u s l E (by rw[QX];rfl) U (by omega) _ [(j,3+n)] (vM (ty:=109) (by rw[zM rfl];rfl)) (λp O=>by
   rw[zJ] at O
   subst O
   exact .inl ⟨rfl,by show 3+n<27;omega⟩) (by simp) (by show 1<1048576;decide)) ?_ ?_
  rotate_left
  ·rintro ch h' ⟨rfl,h1,F⟩
   refine⟨rfl,?_,F⟩
   have:qW (3+n+1) b=none:=by rw[vo,w];simp only[Option.bind_some];rw[show qW 1 K=none from h1];rfl
   rw[show 26=3+n+1+(22 - n) by omega]
   exact Jm this
  rintro r h' ⟨rfl,ns,b2,F,rfl⟩
  obtain⟨t,rfl⟩:=WAa (xm F)
  have v:=u.row s l
  have e1:∀G:List Ob,G[j]? =some (wS (setR (xE y) 0 ([a,C,c]++A)))->wZ G [(j,3+n)] [t]=G.set j (wS (setR (xE y) 0 ([a,C,c]++(A++[t])))):=λG W=>by
   show wY G (j,3+n) t=_
   rw[kB (p:=(j,3+n)) W, <-zn,Kv,ze,α,Nat.zero_add]
   rfl
  rw[e1 _ v]
  have k3:=(u.setj s l (setR (xE y) 0 ([a,C,c]++(A++[t])))).seti E b2
  have κ:=WY w F
  simp only[go_sem]
  refine qF (qz _ (by decide) ?_)
  simp only[go_sem,t0,t1,t25]
  exact⟨7 - (n+1),by omega,n+1,A++[t],b2,by omega,by rw[ze,α];rfl,κ,k3,qc (by omega) rfl,rfl⟩
 ·have hge:¬ (n:Int)<7:=of_decide_eq_false e
  have ο:n=7:=by omega
  subst ο
  simp only[go_sem]
  obtain⟨P,ι⟩:∃P,P=[a,C,c]++A:=⟨_,rfl⟩
  have hP:P.length=10:=by rw[ι,ze,α];rfl
  rw[<-ι] at w V
  refine qF (jr (qi (by decide) ?_))
  simp only[go_sem]
  refine qF (xW (Zo (λm T H=>∃(n:Nat) (A K:List Int),n<=7/\A.length=n/\qW (10+n) b=some (P++A,K)/\StR h j i (setR (xE y) 0 (P++A)) K H/\T 0= .ptr j 0/\T 1= .fn (.func 50) [.ptr i 0] []/\T 37=i64 n/\m=7 - n) 7
   ⟨0,[],K,by omega,rfl,by rw[zU];exact w,by rw[zU];exact V,by simp only[go_sem,t0],by simp only[go_sem,t1],by(simp only[go_sem]<;>rfl),rfl⟩ ?_))
  clear V t0 t1 t25 U hbl hn α w ι
  rintro m T H ⟨n,A,K,hn,ν,J,V,t0,t1,ξ,rfl⟩
  have U:=yT hb J
  have hbl:=ZI hb J
  refine qi (by decide) ?_
  simp only[go_sem,ξ]
  refine qF (qi (by decide) ?_)
  simp only[go_sem]
  refine ways (λe=>?_) (λe=>?_)
  ·have υ:(n:Int)<7:=of_decide_eq_true e
   have D:n<7:=by omega
   simp only[go_sem]
   refine qF (jr (xW ?_))
   refine qi (by decide) ?_
   simp only[go_sem,ξ]
   refine qF ?_
   refine Zs [_,_,_,_,_,_,_] _ rfl rfl (by decide) ?_
   simp only[go_sem,t0,t1,υ,D,Nat.mul_one,Int.toNat_natCast,zg]
   have u:=V.app (M:=[.row 109 1 [[.ptr j (10+n)]] 0]) (zF rfl)
   refine vX (WX u s l E (by rw[QX];rfl) U (by omega) _ [(j,10+n)] (vM (ty:=109) (by rw[zM rfl];rfl)) (λp O=>by
    rw[zJ] at O
    subst O
    exact .inl ⟨rfl,by show 10+n<27;omega⟩) (by simp) (by show 1<1048576;decide)) ?_ ?_
   rotate_left
   ·rintro ch h' ⟨rfl,h1,F⟩
    refine⟨rfl,?_,F⟩
    have:qW (10+n+1) b=none:=by rw[vo,J];simp only[Option.bind_some];rw[show qW 1 K=none from h1];rfl
    rw[show 26=10+n+1+(15 - n) by omega]
    exact Jm this
   rintro r h' ⟨rfl,ns,b2,F,rfl⟩
   obtain⟨t,rfl⟩:=WAa (xm F)
   have v:=u.row s l
   have e1:∀G:List Ob,G[j]? =some (wS (setR (xE y) 0 (P++A)))->wZ G [(j,10+n)] [t]=G.set j (wS (setR (xE y) 0 (P++(A++[t])))):=λG W=>by
    show wY G (j,10+n) t=_
    rw[kB (p:=(j,10+n)) W, <-zn,Kv,ze,ν,Nat.zero_add,hP]
   rw[e1 _ v]
   have k3:=(u.setj s l (setR (xE y) 0 (P++(A++[t])))).seti E b2
   have ψ:=WY J F
   simp only[go_sem]
   refine qF (qz _ (by decide) ?_)
   simp only[go_sem,t0,t1,ξ]
   exact⟨7 - (n+1),by omega,n+1,A++[t],b2,by omega,by rw[ze,ν];rfl,by rw[<-zn];exact ψ,k3,qc (by omega) rfl,rfl⟩
  ·have hge:¬ (n:Int)<7:=of_decide_eq_false e
   have ο:n=7:=by omega
   subst ο
   simp only[go_sem]
   obtain⟨cs,N⟩:∃cs,cs=setR (xE y) 0 (P++A):=⟨_,rfl⟩
   have η:cs.length=27:=by rw[N,QX];rfl
   have hc22:nth cs 22=i64 0:=by
    have z:cs[22]? =some (i64 0):=by rw[N,j4a (by rw[ze,hP,ν];omega)];rfl
    exact QY z
   rw[<-N] at V
   have v:=V.row s l
   have h22:(22<cs.length)=True:=eq_true (by omega)
   refine qF (qi (by decide) ?_)
   simp only[go_sem,t0,v,h22,hc22]
   refine qF (jr ?_)
   refine WF [_,_,_,_,_,_,_,_,_,_,_,_,_,_,_,_,_,_,_,_,_,_,_,_,_,_,_,_,_,_] _ rfl rfl [.res] 1 [(0,0,[]),(1,0,[]),(2,0,[]),(3,0,[]),(4,0,[]),(5,0,[]),(6,0,[]),(7,0,[]),(8,0,[]),(9,0,[]),(10,0,[]),(11,0,[]),(12,0,[]),(13,0,[]),(14,0,[]),(15,0,[]),(16,0,[]),(17,0,[]),(18,0,[]),(19,0,[]),(20,0,[]),(21,0,[]),(22,0,[]),(23,0,[]),(24,0,[]),(25,0,[]),(26,0,[]),(27,0,[]),(28,0,[]),(29,0,[])] rfl (by decide) (by decide) (by decide) (by decide) ?_
   simp only[go_sem,t0,t1]
   have u:=V.app (M:=[.box 3 [i64 1],.row 109 1 [[.ptr j 17],[.ptr j 18],[.ptr j 19],[.ptr j 20],[.ptr j 21],[.ptr H.length 0],[.ptr j 23],[.ptr j 24],[.ptr j 25]] 0]) (zp rfl (zF rfl))
   obtain⟨G,W⟩:∃G,G=H++[Ob.box 3 [i64 1],.row 109 1 [[.ptr j 17],[.ptr j 18],[.ptr j 19],[.ptr j 20],[.ptr j 21],[.ptr H.length 0],[.ptr j 23],[.ptr j 24],[.ptr j 25]] 0]:=⟨_,rfl⟩
   have hHl:=V.len
   have τ:G[H.length]? =some (.box 3 [i64 1]):=by rw[W,zM rfl];rfl
   have hgz:SlOf G (.tl (H.length+1) 0) 1 ([(j,17),(j,18),(j,19),(j,20),(j,21),(H.length,0),(j,23),(j,24),(j,25)].map λp=>[.ptr p.1 p.2]):=vM (ty:=109) (by rw[W,zN (k:=1) rfl];rfl)
   rw[<-W] at u
   rw[<-W]
   have R:H.length≠j:=by omega
   have hmi:H.length≠i:=by omega
   clear W
   refine vX (WX u s l E η U (by omega) _ [(j,17),(j,18),(j,19),(j,20),(j,21),(H.length,0),(j,23),(j,24),(j,25)] hgz (λp O=>by
    simp only[zH,List.not_mem_nil,or_false] at O
    rcases O with rfl|rfl|rfl|rfl|rfl|rfl|rfl|rfl|rfl
    ·exact .inl ⟨rfl,by show 17<27;decide⟩
    ·exact .inl ⟨rfl,by show 18<27;decide⟩
    ·exact .inl ⟨rfl,by show 19<27;decide⟩
    ·exact .inl ⟨rfl,by show 20<27;decide⟩
    ·exact .inl ⟨rfl,by show 21<27;decide⟩
    ·exact .inr ⟨hHl,_,_,τ,Nat.zero_lt_one⟩
    ·exact .inl ⟨rfl,by show 23<27;decide⟩
    ·exact .inl ⟨rfl,by show 24<27;decide⟩
    ·exact .inl ⟨rfl,by show 25<27;decide⟩) (by simp) (by show 9<1048576;decide)) ?_ ?_
   rotate_left
   ·rintro ch h' ⟨rfl,h1,F⟩
    refine⟨rfl,?_,F⟩
    rw[show 26=10+7+9 from rfl,vo,J]
    simp only[Option.bind_some]
    rw[show qW 9 K=none from h1]
    rfl
   rintro r h' ⟨rfl,ns,b2,F,rfl⟩
   obtain⟨n1,n2,n3,n4,n5,n6,n7,n8,n9,rfl⟩:=YCa (xm F)
   have q:=u.row s l
   obtain⟨c9,β⟩:∃c9,c9=(((((((cs.set 17 (i64 n1)).set 18 (i64 n2)).set 19 (i64 n3)).set 20 (i64 n4)).set 21 (i64 n5)).set 23 (i64 n7)).set 24 (i64 n8)).set 25 (i64 n9):=⟨_,rfl⟩
   have e1:wZ G [(j,17),(j,18),(j,19),(j,20),(j,21),(H.length,0),(j,23),(j,24),(j,25)] [n1,n2,n3,n4,n5,n6,n7,n8,n9]=(G.set j (wS c9)).set H.length (.box 3 [i64 n6]):=by
    show wY (wY (wY (wY (wY (wY (wY (wY (wY G (j,17) n1) (j,18) n2) (j,19) n3) (j,20) n4) (j,21) n5) (H.length,0) n6) (j,23) n7) (j,24) n8) (j,25) n9=_
    rw[kB (p:=(j,17)) q,vua q,vua q,vua q,vua q,kB (p:=(H.length,0)) (ty:=3) (cs:=[i64 1]) (by rw[zc (Ne.symm R)];exact τ),Qwa q R,Qwa q R,Qwa q R,β]
    rfl
   rw[e1]
   have k3:=((u.setj s l c9).setL (m:=H.length) hHl (o:= .box 3 [i64 n6]) rfl).seti E b2
   obtain⟨G3,X⟩:∃G3,G3=((G.set j (wS c9)).set H.length (.box 3 [i64 n6])).set i (vu (.sl 1 (b2.map qN))):=⟨_,rfl⟩
   have hg3:G3[H.length]? =some (.box 3 [i64 n6]):=by
    rw[X,zc (Ne.symm hmi)]
    exact zq (by rw[zc (Ne.symm R)];exact τ)
   rw[<-X] at k3
   rw[<-X]
   clear X
   have μ:=k3.row s l
   have h9l:c9.length=27:=by rw[β];simp only[zP];exact η
   have Y:=Vl (cs:=c9) (o:=22) (x:=i64 (IntKind.wrap .i64 (n6 - 1))) (by omega)
   simp only[go_sem]
   refine qF (qz _ (by decide) ?_)
   simp only[go_sem,t0,μ,hg3,Y]
   refine⟨.tup [],by simp only[go_sem],.inl ⟨rfl,P++A,K,n1,n2,n3,n4,n5,n6,n7,n8,n9,b2,J,F,?_⟩⟩
   have k4:=k3.setj s l (c9.set 22 (i64 (IntKind.wrap .i64 (n6 - 1))))
   rw[β,N] at k4
   rw[β,N]
   exact k4
open Go.RowKit
theorem K0{w:World}{b:Nat}{x v:Value}{ty:TypeId}(h:w.heap[b]? =some (.cells #[x] ty (0,0))):w.setCell ⟨b,0,none⟩ v=w.setRow b #[v]:=by
 unfold World.setCell World.setRow
 have d:=(qm.1 h).1
 have a:=(qm.1 h).2
 congr 1
 apply Array.ext
 ·simp
 ·intro j f c
  rw[Array.getElem_modify,Array.getElem_modify]
  by_cases e:b=j
  ·subst e
   simp[a]
  ·rw[if_neg e,if_neg e]
theorem kDa(p q:Value)(w:World):
  CallsD Tryz.prog 47 #[p,q] .returning w λe b w'=>e= .returned (.tuple #[])/\b= .returning/\w'=w:=by
 refine callsD_of_wpS Tryz.func47 rfl λc cs a=>?_
 apply wpS_seq
 apply wpS_region
 simp[wpOpsS,go_sem,recoverD,a,Tryz.ntmps47,Exit.thenS]
 refine wpS_of_wp ?_
 go_wp2
 refine⟨rfl,_,rfl,.tuple #[],by simp[results,Tryz.results47],rfl,?_,rfl⟩
 exact a
noncomputable def readRest:Code:=match Tryz.f16.body with
 | some (.seq _ (.seq _ c))=>c
 | _=> .skip
abbrev Jy(h:List Ob):List Ob:=h++[.box 32 [.v (.slice none 0 0)],.box 37 [i64 0]]
abbrev vva(h:List Ob)(x:AV):Env:=upd (upd (upd (nth [x]) 2 (.ptr h.length 0)) 3 (.ptr (h.length+1) 0)) 7 (.fn (.func 47) [] [.ptr h.length 0,.ptr (h.length+1) 0])
def WBa(h:List Ob)(R:AV->List Ob->Prop)(b:Prop):jA
 | .normal,T,h' | .ret,T,h'=>∃r,Zi Tryz.prog T h' [.cell 2 32,.cell 3 37]=some r/\R r h'
 | .panic a,T,h'=>a=[J4]/\b/\T 2= .ptr h.length 0/\T 3= .ptr (h.length+1) 0/\(∃y,h'[h.length]? =some (.box 32 [y]))/\(∃z,h'[h.length+1]? =some (.box 37 [z]))/\∃L,h'=h++L
 | _,_,_=>False
set_option maxHeartbeats 4000000 in
theorem j5a(h:List Ob)(x:AV)(R:AV->List Ob->Prop)(RP:Prop)(hex:∃r h',R r h'/\ResK h h')(k:∀B,AWp Tryz.prog 48 B readRest (WBa h R RP) (vva h x) (Jy h)):
  ACalls Tryz.prog 16 [x] h λr h'=>R r h'∨(RP/\r= .tup [.v (.slice none 0 0),i64 200]/\h'=h):=by
 refine⟨by kernel_rfl,(let ⟨r,h',q1,q2⟩:=hex;⟨r,h',.inl q1,q2⟩),λφ hu B w g vs hh hB A=>?_⟩
 have U:=kR A
 have hl1:vs.length=1:=by rw[<-U];rfl
 refine calls_of_wp_defers (fn:=Tryz.f16) (c:= .seq _ (.seq _ readRest)) rfl rfl ?_
 have W:Rel 48 ⟨B,[]⟩ w g (fill φ h) { tmps:=vs.toArray++Array.replicate (Tryz.f16.ntmps - vs.toArray.size) undef,defers:=[] } (nth [x]):=by
  refine⟨hh,hB,λi=>?_,rfl,(by simp[hl1]<;>rfl)⟩
  by_cases hi:i<1
  ·obtain⟨u,e1,e2⟩:=vv A i hi
   have:(vs.toArray++Array.replicate (Tryz.f16.ntmps - vs.toArray.size) undef).getD i undef=u:=by
    rw[zt,Array.getElem?_append_left (by simp;omega)]
    simp[e1]
   simp only[this]
   exact e2
  ·rw[Vf (by show 1<=i;omega)]
   trivial
 refine wp_seq (wp_mono (qz (N:=48) (B:=⟨B,[]⟩) (Q:=λe T' h'=>e= .normal/\T'=upd (upd (nth [x]) 2 (.ptr h.length 0)) 3 (.ptr (h.length+1) 0)/\h'=Jy h) _ (by decide) (by
  simp only[go_sem]) φ hu w g _ W) λe a1 D ⟨T1,h1,⟨q1,q2,q3⟩,O,σ,p,X⟩=>?_)
 subst q1 q2 q3
 have ι:Upto φ (Jy h).length:=hu.mono (by rw[ze];exact Nat.le_add_right _ _)
 refine wp_seq ?_
 have hd0:(Jy h)[h.length]? =some (.box 32 [.v (.slice none 0 0)]):=by rw[zM rfl];rfl
 have hd1:(Jy h)[h.length+1]? =some (.box 37 [i64 0]):=by rw[zN (k:=1) rfl];rfl
 have p2:AR (ctx D O (fill φ (Jy h))) (.ptr h.length 0) (a1.tmps.getD 2 undef):=p.t 2
 have p3:AR (ctx D O (fill φ (Jy h))) (.ptr (h.length+1) 0) (a1.tmps.getD 3 undef):=p.t 3
 obtain⟨q,α⟩:∃q,q=a1.tmps.getD 2 undef:=⟨_,rfl⟩
 obtain⟨m,Y⟩:∃m,m=a1.tmps.getD 3 undef:=⟨_,rfl⟩
 rw[<-α] at p2
 rw[<-Y] at p3
 have v2:a1.eval (.tmp 2)=q:=by rw[α];simp[Act.eval]
 have v3:a1.eval (.tmp 3)=m:=by rw[Y];simp[Act.eval]
 have hmf:∀(fn:Fn) (first cap:Array Value) (w:World),(Instr.makeFunc fn first cap).run Tryz.prog w= .ok (.func fn first cap) w:=λ_ _ _ _=>rfl
 refine(wpIn_wide (n:=0)).1 (wpIn_region_list ?_)
 unfold wpListIn
 rw[if_pos (by simp[Region.wanted])]
 refine xX 0 (WE (w':=D) (v:= .func (.func 47) #[] #[q,m]) (by simp[execOp,v2,v3,hmf]) ?_)
 obtain⟨a2,I⟩:∃a2:Act,a2=a1.put (some 7) (.func (.func 47) #[] #[q,m]):=⟨_,rfl⟩
 have T:Rel 48 ⟨B,[]⟩ D O (fill φ (Jy h)) a2 (vva h x):=by
  rw[I]
  exact kv (o:=⟨some 7,.build 0 #[],0, "", #[],none⟩) p (Good.refl p.ok p.hB) (x:= .fn (.func 47) [] [.ptr h.length 0,.ptr (h.length+1) 0]) ⟨#[], #[q,m],rfl,rfl,q,[m],rfl,p2,m,[],rfl,p3,rfl⟩ rfl
 have v7:a2.eval (.tmp 7)= .func (.func 47) #[] #[q,m]:=by
  have:7<a1.tmps.size:=by rw[p.n];decide
  rw[I]
  simp[Act.eval,Act.put,this]
 rw[<-I]
 unfold wpListIn
 rw[if_pos (by simp[Region.wanted])]
 refine xX 0 ?_
 unfold Oper.wp
 have S:(execOp a2.eval { dst:=none,op:=Op.defer { callee:=Callee.value (Operand.tmp 7),args:= #[],argTypes:= #[] },type:=0,pos:= "row.go:145",after:= #[{ on:=0,ground:=Ground.data }],guard:=none }).run Tryz.prog D= .ok (.defer { target:= .fn (.func 47) #[q,m],args:= #[] }) D:=by
  simp[execOp,resolve,v7,Deferred.ofValue]
 rw[S]
 obtain⟨d,hd⟩:∃d:Deferred,d={ target:= .fn (.func 47) #[q,m],args:= #[] }:=⟨_,rfl⟩
 have r3:Rel 48 ⟨B,[d]⟩ D O (fill φ (Jy h)) { a2 with defers:=d::a2.defers } (vva h x):=⟨T.ok,T.hB,T.t,by show d::a2.defers=[d];rw[T.d],T.n⟩
 rw[<-hd]
 show Code.wp Tryz.prog readRest _ { a2 with defers:=d::a2.defers } D
 refine wp_mono (k ⟨B,[d]⟩ φ ι D O _ r3) λe a4 C ⟨T4,P,q4,j,ek4,E,a⟩=>?_
 have fin:(∃r,Zi Tryz.prog T4 P [.cell 2 32,.cell 3 37]=some r/\R r P)->bodyPostD Tryz.prog Tryz.f16 (λe w'=>∃v r h' g',e=Ending.returned v/\(λr h'=>R r h'∨RP/\r=AV.tup [AV.v (Value.slice none 0 0),i64 200]/\h'=h) r h'/\ResK h h'/\Good B w g (fill φ h) w' g' (fill φ h')/\AR (ctx w' g' (fill φ h')) r v) .ret a4 C:=by
  rintro ⟨r,q5,q6⟩
  obtain⟨v,z1,z2⟩:=Vg (fn:=Tryz.f16) a.ok a.size E.t (Kp q5)
  show Leaves _ _ _ _ a4.defers .returning C
  rw[E.d]
  show Leaves _ _ _ _ [d] .returning C
  rw[hd]
  refine leaves_cons (f:=47) (args:= #[q,m]) (by simp) (by simp[go_sem]) ?_
  refine(kDa _ _ _).mono ?_
  rintro e u' w' ⟨rfl,rfl,rfl⟩
  exact⟨v,z1,v,r,P,j,rfl,.inl q6,σ.trans ek4,X.trans a,z2⟩
 cases e with
 | normal=>exact fin q4
 | ret=>exact fin q4
 | panic ch=>
   obtain⟨rfl,hRP,t2,t3,⟨y,hy⟩,⟨z,hz⟩,L,hL⟩:=q4
   have y0:=qy (φ:=φ) hy rfl
   have z0:=qy (φ:=φ) hz rfl
   obtain⟨_,c0,K,u0,l0,f1,_,f2⟩:=a.ok.ok _ _ y0
   obtain⟨_,c1,m1,u1,l1,f3,_,f4⟩:=a.ok.ok _ _ z0
   have f2:l0=[]:=f2
   have f4:l1=[]:=f4
   subst f2 f4
   have e0:c0= #[u0]:=Array.ext' (by rw[f1])
   have e1:c1= #[u1]:=Array.ext' (by rw[f3])
   subst e0 e1
   have K:C.heap[j.β h.length]? =some (.cells #[u0] 32 (0,0)):=K
   have m1:C.heap[j.β (h.length+1)]? =some (.cells #[u1] 37 (0,0)):=m1
   have hne:j.β (h.length+1)≠j.β h.length:=λe=>a.ok.apart h.length (h.length+1) _ _ (j.β h.length) (by omega) y0 z0 rfl (by rw[<-e];rfl)
   have v2':q= .pointer (some ⟨j.β h.length,0,none⟩):=by
    rw[p2.2]
    exact congrArg (λb=>Value.pointer (some ⟨b,0,none⟩)) (a.le.β h.length p2.1).symm
   have υ:m= .pointer (some ⟨j.β (h.length+1),0,none⟩):=by
    rw[p3.2]
    exact congrArg (λb=>Value.pointer (some ⟨b,0,none⟩)) (a.le.β (h.length+1) p3.1).symm
   show Leaves _ _ _ _ a4.defers (.panicking [J4]) C
   rw[E.d]
   show Leaves _ _ _ _ [d] (.panicking [J4]) C
   rw[hd,v2',υ]
   refine leaves_cons (f:=47) (args:= #[.pointer (some ⟨j.β h.length,0,none⟩),.pointer (some ⟨j.β (h.length+1),0,none⟩)]) (by simp) (by simp[go_sem]) ?_
   refine(KW (j.β h.length) (j.β (h.length+1)) u0 u1 C (qm.1 K).1 (qm.1 m1).1 hne (by unfold World.cell?;rw[K];rfl) (by unfold World.cell?;rw[m1];rfl) (by unfold World.frozen?;rw[K];rfl) (by unfold World.frozen?;rw[m1];rfl)).mono ?_
   rintro e u' s ⟨rfl,rfl,o,rfl⟩
   have t1:=Vq a.ok a.size y0 (cs':=[.v (.slice none 0 0)]) (vs':= #[.slice none 0 0]) ⟨_,[],rfl,rfl,rfl⟩
   rw[<-jB rfl, <-K0 K] at t1
   have M:(P.set h.length (.box 32 [.v (.slice none 0 0)]))[h.length+1]? =some (.box 37 [z]):=by rw[zc (by omega)];exact hz
   have V:=qy (φ:=φ) M rfl
   obtain⟨_,c2,m2,u2,l2,f5,_,f6⟩:=t1.ok.ok _ _ V
   have f6:l2=[]:=f6
   subst f6
   have e2:c2= #[u2]:=Array.ext' (by rw[f5])
   subst e2
   have m2:(C.setCell ⟨j.β h.length,0,none⟩ (.slice none 0 0)).heap[j.β (h.length+1)]? =some (.cells #[u2] 37 (0,0)):=m2
   have l:=Vq t1.ok t1.size V (cs':=[i64 200]) (vs':= #[.int .i64 200]) ⟨_,[],rfl,rfl,rfl⟩
   rw[<-jB rfl, <-K0 m2] at l
   obtain⟨s,γ⟩:∃s,s=(C.setCell ⟨j.β h.length,0,none⟩ (.slice none 0 0)).setCell ⟨j.β (h.length+1),0,none⟩ (.int .i64 200):=⟨_,rfl⟩
   rw[<-γ] at l
   rw[<-γ]
   obtain⟨G,H⟩:∃G,G=(P.set h.length (.box 32 [.v (.slice none 0 0)])).set (h.length+1) (.box 37 [i64 200]):=⟨_,rfl⟩
   rw[<-H] at l
   have F:Below s.heap.size s (s.alloc o):=(Below.refl _ s).alloc (zo _) o
   have t3':Good B s j (fill φ G) (s.alloc o) j (fill φ G):=⟨l.ok.ext F,Le.ext F,F.mono l.size,Nat.le_trans l.size F.size⟩
   have tg:=(t1.trans l).trans t3'
   have g6:G[h.length]? =some (.box 32 [.v (.slice none 0 0)]):=by rw[H,zc (by omega)];exact zq hy
   have g7:G[h.length+1]? =some (.box 37 [i64 200]):=by rw[H];exact zq M
   have Z:Zi Tryz.prog T4 G [.cell 2 32,.cell 3 37]=some (.tup [.v (.slice none 0 0),i64 200]):=by
    simp only[go_sem,t2,t3,g6,g7]
   have J:∃L6,G=h++L6:=⟨_,by rw[H,hL,zR _ _ (zo _),zR _ _ (by omega)]⟩
   obtain⟨L6,J⟩:=J
   have χ:wK (ctx (s.alloc o) j (fill φ G)) T4 a4:=λi=>AR.le tg.le _ _ (E.t i)
   obtain⟨v,z1,z2⟩:=Vg (fn:=Tryz.f16) tg.ok tg.size χ (Kp Z)
   have hG:=(X.trans a).trans tg
   rw[J,jO hu] at hG z2
   exact⟨v,z1,v,_,h,j,rfl,.inr ⟨hRP,rfl,rfl⟩,.refl,hG.drop rfl (by have:=hh.ids;exact this),AR.less (kG (s.alloc o) j (fill φ h) L6) _ _ (by rfl) z2⟩
 | _=>exact q4.elim
end Go.Proofs.YtigdlmpjijhpaaaGreat.Ax
namespace Go.Proofs.YtigdlmpjijhpaaaGreat.Ax
open Go Go.RowKit
def FrzTo(h L:List Ob)(x x':AV):Prop:=∀(B:Nat) (w:World) (g:Gh) (a:List Ob),a.length=h.length->HOk B w g (a++L)->∀u,AR (ctx w g (a++L)) x u->AR (ctx w g a) x' u
def FrzL(h L:List Ob)(l l':List AV):Prop:=∀(B:Nat) (w:World) (g:Gh) (a:List Ob),a.length=h.length->HOk B w g (a++L)->∀us,ARs (ctx w g (a++L)) l us->ARs (ctx w g a) l' us
theorem FrzTo.lt{h L:List Ob}{x:AV}(c:x.lt h.length=true):FrzTo h L x x:=λB w g a e d u b=>AR.less (kG w g a L) _ _ (by rw[e];exact c) b
theorem FrzTo.new{h L:List Ob}{x:AV}{e:Nat}{rows:List (List AV)}(c:0<e)(f:qZ h.length rows=true)(n:New h e x rows L):FrzTo h L x (.sl e rows):=λB w g i a d u b=>
 JM d c b (n _ a) (λid hid=>by rw[a];exact n.root id hid) (by rw[a];exact f)
theorem FrzL.nil{h L:List Ob}:FrzL h L [] []:=λ_ _ _ _ _ _ _ h=>h
theorem FrzL.cons{h L:List Ob}{x x':AV}{l l':List AV}(k:FrzTo h L x x')(q:FrzL h L l l'):FrzL h L (x::l) (x'::l'):=λB w g a e b us ⟨v,r,d,c,f⟩=>⟨v,r,d,k B w g a e b v c,q B w g a e b r f⟩
theorem FrzL.lt{h L:List Ob}:∀ {l:List AV},qJ h.length l=true->FrzL h L l l
 | [],_=> .nil
 | a::l,b=>by
   rw[qJ,zj] at b
   exact .cons (.lt b.1) (FrzL.lt b.2)
theorem FrzTo.tup{h L:List Ob}{l l':List AV}(k:FrzL h L l l'):FrzTo h L (.tup l) (.tup l'):=λB w g a e c u ⟨vs,d,b⟩=>⟨vs,d,k B w g a e c _ b⟩
theorem Yo{P:Program}{f:FuncId}{ar:List AV}{h:List Ob}{j:AV}(c:ACalls P f ar h λr h'=>∃L,h'=h++L/\NoRes L/\FrzTo h L r j):ACalls P f ar h λr h'=>r=j/\h'=h:=by
 refine⟨c.1,⟨_,_,⟨rfl,rfl⟩,.refl⟩,λφ e B w g vs k hB a=>?_⟩
 refine(c.2.2 φ e B w g vs k hB a).mono λn w' ⟨v,r,h',g',m,⟨L,l,_,n1⟩,_,d,i⟩=>?_
 subst l
 rw[jO e] at d i
 have b:(fill φ h).length=h.length:=qT
 exact⟨_,_,h,g',m,⟨rfl,rfl⟩,.refl,d.drop rfl (by have:=k.ids;exact this),n1 B w' g' _ b d.ok _ i⟩
section
variable {P:Program} {N:Nat} {Q:jA} {T:Env} {h:List Ob} {c:Code}
theorem qca{x:Ctx}:∀ {a b:List AV} {us:List Value},ARs x (a++b) us->∃vs c,us=vs++c/\ARs x a vs/\ARs x b c
 | [],b,us,k=>⟨[],us,rfl,rfl,k⟩
 | y::a,b,us,⟨v,r,i,e,f⟩=>by
   obtain⟨vs,c,d,h,g⟩:=qca (a:=a) f
   exact⟨v::vs,c,by rw[i,d];rfl,⟨v,vs,rfl,e,h⟩,g⟩
theorem WZ{B:Bs}{id st j:Nat}{ty m:TypeId}{e:Nat}{a:List AV}{xs:List (List AV)}(o:h[j]? =some (.box m (a++[.tl id st])))(f:h[id]? =some (.row ty e xs st))(k:AWp P N B c Q T ((h.set id .gone).set j (.box m (a++[.sl e xs])))):AWp P N B c Q T h:=
 zDa k λφ G w g H r=>by
  have l:id≠j:=λe=>by rw[e,o] at f;cases f
  obtain⟨k1,k2⟩:=Qu r.ok r.hB (qy f rfl)
  rw[<-jB rfl] at k1 k2
  obtain⟨_,vs,E,z⟩:=r.ok.ok _ _ (qy (φ:=φ) o rfl)
  obtain⟨us,F,s,A,y⟩:=qca z
  obtain⟨u,q,D,v,x⟩:=y
  have b:(h.set id .gone)[j]? =some (.box m (a++[.tl id st])):=by rw[zc l];exact o
  have C:ARs (ctx w g (fill φ (h.set id .gone))) (a++[.sl e xs]) vs.toList:=by
   rw[s]
   exact jY (ARs.le k1.le _ _ A) ⟨u,q,D,k2 _ v,x⟩
  have t:=zga k1.ok k1.size (qy (φ:=φ) b rfl) (vs:=vs.toList) ⟨vs,E,rfl⟩ C
  rw[<-jB rfl] at t
  have p:=k1.trans t
  exact XZ ((qH f rfl).trans (qH b rfl)) p (λi=>AR.le p.le _ _ (r.t i)) r.d r.n
theorem j6a{B:Bs}{j:Nat}{f:TypeId}(e:Nat){a:List AV}(b:h[j]? =some (.box f (a++[.v (.slice none 0 0)])))(k:AWp P N B c Q T (h.set j (.box f (a++[.sl e []])))):AWp P N B c Q T h:=
 zDa k λφ D w g E r=>by
  obtain⟨_,vs,A,s⟩:=r.ok.ok _ _ (qy (φ:=φ) b rfl)
  obtain⟨us,C,l,x,p⟩:=qca s
  obtain⟨u,q,z,m,o⟩:=p
  have y:ARs (ctx w g (fill φ h)) (a++[.sl e []]) vs.toList:=by
   rw[l]
   exact jY x ⟨u,q,z,WeakV.nil e _ u m,o⟩
  have t:=zga r.ok r.hB (qy (φ:=φ) b rfl) (vs:=vs.toList) ⟨vs,A,rfl⟩ y
  rw[<-jB rfl] at t
  exact XZ (qH b rfl) t (λi=>AR.le t.le _ _ (r.t i)) r.d r.n
end
end Go.Proofs.YtigdlmpjijhpaaaGreat.Ax
namespace Go.Proofs.YtigdlmpjijhpaaaGreat.Ax
open Go Go.Proofs
set_option maxRecDepth 100000
theorem XV{h h':List Ob}(k:∀(j:Nat) (o:Ob),h[j]? =some o->h'[j]? =some o):∃L,h'=h++L:=by
 refine⟨h'.drop h.length,?_⟩
 apply qD
 intro j
 rcases Nat.lt_or_ge j h.length with a|a
 ·rw[zC a,zh a]
  exact k j _ (zh a)
 ·rw[zI a,List.getElem?_drop,show h.length+(j - h.length)=j by omega]
theorem xF{l:List Int}{n:Nat}(h:l.length=n+1):∃x r,l=x::r/\r.length=n:=by
 cases l with
 | nil=>simp at h
 | cons x r=>exact⟨x,r,rfl,by simpa using h⟩
set_option maxHeartbeats 1000000 in
theorem Xla{ns:List Int}(v:ns.length=17)(a b c d e t f g k:Int)(r:AV):K2a (setR (xE r) 0 ns) a b c d e t f g k=jJ (wi (ns++[a,b,c,d,e,t,f,g,k])) r:=by
 obtain⟨S,r0,rfl,h0⟩:=xF v
 obtain⟨x1,W,rfl,O⟩:=xF h0
 obtain⟨x2,r2,rfl,D⟩:=xF O
 obtain⟨X,r3,rfl,s⟩:=xF D
 obtain⟨x4,T,rfl,y⟩:=xF s
 obtain⟨x5,Z,rfl,K⟩:=xF y
 obtain⟨x6,R,rfl,G⟩:=xF K
 obtain⟨Q,Y,rfl,E⟩:=xF G
 obtain⟨V,r8,rfl,H⟩:=xF E
 obtain⟨x9,U,rfl,M⟩:=xF H
 obtain⟨L,I,rfl,j⟩:=xF M
 obtain⟨F,C,rfl,o⟩:=xF j
 obtain⟨z,P,rfl,l⟩:=xF o
 obtain⟨w,x,rfl,p⟩:=xF l
 obtain⟨B,A,rfl,h⟩:=xF p
 obtain⟨u,N,rfl,m⟩:=xF h
 obtain⟨J,n,rfl,q⟩:=xF m
 have i:n=[]:=zz q
 subst i
 simp[K2a,setR,xE,wi]
theorem YDa{l:List Int}(h:l.length=2):∃a b,l=[a,b]:=by
 match l,h with
 | [a,b],_=>exact⟨a,b,rfl⟩
theorem zqa:∀ {k:Nat} {l:List Int} {x y:Int},l.length=2*k->flgs (l++[x,y])=flgs l++[⟨x,y⟩]
 | 0,[],_,_,_=>rfl
 | k+1,a::b::l,x,y,h=>by
   show(⟨a,b⟩:Flg)::flgs (l++[x,y])=⟨a,b⟩::(flgs l++[⟨x,y⟩])
   rw[zqa (k:=k) (by simp only[List.length_cons] at h;omega)]
def XTa(h:List Ob)(b:List Int)(r:AV)(h':List Ob):Prop:=∃W L,ko b=some W/\h'=h++L/\NoRes L/\FrzTo h L r (.tup [.sl 27 (W.map ZH),i64 0])
set_option maxHeartbeats 4000000 in
theorem K3a(h:List Ob)(x:AV)(b:List Int)(hx:SlOf h x 1 (b.map qN))(hb:By b)(hl:b.length<1073741824)(B:Bs):
  AWp Tryz.prog 48 B readRest (WBa h (XTa h b) (ko b=none)) (vva h x) (Jy h):=by
 have hxo:=hx.one
 have hxc:=hx.cells
 show AWp Tryz.prog 48 B (.seq _ (.seq (.seq _ (.block _ (.loop _))) _)) _ _ _
 refine qi (by decide) ?_
 simp only[go_sem,hxo,hxc]
 refine qF (jr (jr ?_))
 refine j3a [] _ [_] rfl rfl (by decide) ?_
 simp only[go_sem]
 have hi0:(h++[Ob.box 32 [.v (.slice none 0 0)],.box 37 [i64 0],vu x])[h.length+2]? =some (vu x):=by rw[zN (k:=2) rfl];rfl
 have hbx0:(h++[Ob.box 32 [.v (.slice none 0 0)],.box 37 [i64 0],vu x])[h.length]? =some (.box 32 [.v (.slice none 0 0)]):=by rw[zM rfl];rfl
 have hbx1:(h++[Ob.box 32 [.v (.slice none 0 0)],.box 37 [i64 0],vu x])[h.length+1]? =some (.box 37 [i64 0]):=by rw[zN (k:=1) rfl];rfl
 refine vX (XOa _ (h.length+2) x b hi0 (hx.app _) hb (by omega)) ?_ ?_
 rotate_left
 ·rintro ch h' ⟨rfl,h1,h2⟩
  refine⟨rfl,by unfold ko;rw[h1];rfl,by simp only[go_sem],by simp only[go_sem],⟨_,h2 _ _ (by omega) hbx0⟩,⟨_,h2 _ _ (by omega) hbx1⟩,XV λj o O=>h2 j o ?_ (zf O)⟩
  have:=(zd.1 O).1
  omega
 rintro r h' ⟨n,b1,hm,rfl,rfl⟩
 obtain⟨hbe,hn64,hb1,hnl⟩:=Qb hb hm
 obtain⟨M,rfl⟩:=Int.eq_ofNat_of_zero_le hn64.1
 have hb1l:b1.length<=b.length:=by rw[hbe,ze];omega
 clear hbe
 obtain⟨H0,ρ⟩:∃H0,H0=h++[Ob.box 32 [.v (.slice none 0 0)],.box 37 [i64 0],vu (.sl 1 (b1.map qN))]:=⟨_,rfl⟩
 have u:(h++[Ob.box 32 [.v (.slice none 0 0)],.box 37 [i64 0],vu x]).set (h.length+2) (vu (.sl 1 (b1.map qN)))=H0:=by
  rw[ρ,zR _ _ (by omega),show h.length+2 - h.length=2 by omega]
  rfl
 rw[u]
 simp only[go_sem]
 have k0:H0[h.length]? =some (.box 32 [.v (.slice none 0 0)]):=by rw[ρ,zM rfl];rfl
 have k1:H0[h.length+1]? =some (.box 37 [i64 0]):=by rw[ρ,zN (k:=1) rfl];rfl
 have k2:H0[h.length+2]? =some (vu (.sl 1 (b1.map qN))):=by rw[ρ,zN (k:=2) rfl];rfl
 have hp0:Pre h H0:=⟨_,ρ,zp rfl (zp rfl (zF rfl))⟩
 refine qF (xW (Zo (λm T H=>∃(k:Nat) (W:List (RowV × List Flg)) (bk:List Int) (yv:AV),k<=M/\qR k b1=some (W,bk)/\By bk/\bk.length<=b1.length/\Pre h H/\H[h.length]? =some (.box 32 [yv])/\OwnS h H 45 27 yv (W.map λq=>ZD q.1++[.sl 2 (q.2.map jT)])/\H[h.length+1]? =some (.box 37 [i64 0])/\H[h.length+2]? =some (vu (.sl 1 (bk.map qN)))/\
  T 2= .ptr h.length 0/\T 3= .ptr (h.length+1) 0/\T 4= .ptr (h.length+2) 0/\T 11=i64 M/\T 12=i64 k/\m=M - k) M
  ⟨0,[],b1,.v (.slice none 0 0),by omega,rfl,hb1,zo _,hp0,k0,.inl ⟨rfl,rfl⟩,k1,k2,by simp only[go_sem],by simp only[go_sem],by simp only[go_sem],by simp only[go_sem],by(simp only[go_sem]<;>rfl),rfl⟩ ?_))
 clear k0 k1 k2 hp0 u hbx0 hbx1 hi0
 rintro m T H ⟨k,W,bk,yv,hk,Z,hbk,hbl,hp,k0,γ,k1,k2,t2,t3,t4,z,A,rfl⟩
 refine qi (by decide) ?_
 simp only[go_sem,z,A]
 refine qF (qi (by decide) ?_)
 simp only[go_sem]
 refine ways (λe=>?_) (λe=>?_)
 ·have ω:=dlt e
  have hHl:h.length+2<H.length:=(zd.1 k2).1
  simp only[go_sem]
  refine qF (jr (xW ?_))
  refine qi (by decide) ?_
  simp only[go_sem]
  refine qF (jr ?_)
  refine Zs [_] _ rfl rfl (by decide) ?_
  simp only[go_sem,t4]
  have c0:(H++[wS (xE (.v (.slice none 0 0)))])[H.length]? =some (wS (xE (.v (.slice none 0 0)))):=by rw[zM rfl];rfl
  have c2:(H++[wS (xE (.v (.slice none 0 0)))])[h.length+2]? =some (vu (.sl 1 (bk.map qN))):=zf k2
  refine vX (Xka _ (h.length+2) H.length bk _ (by omega) c2 c0 hbk (by omega)) ?_ ?_
  rotate_left
  ·rintro ch h' ⟨rfl,h1,h2⟩
   have l:FrR H.length (h.length+2) H h':=λm o z1 z2 z3=>h2 m o z1 z2 (zf z3)
   obtain⟨L,hL,_⟩:=hp
   refine⟨rfl,Qc hm (wI Z (Yl h1) ω),by simp only[go_sem,t2],by simp only[go_sem,t3],⟨_,l _ _ (by omega) (by omega) k0⟩,⟨_,l _ _ (by omega) (by omega) k1⟩,XV λj o O=>l j o ?_ ?_ (by rw[hL];exact zf O)⟩
   ·have:=(zd.1 O).1
    omega
   ·have:=(zd.1 O).1
    omega
  rintro r h' ⟨rfl,ns,bq,a,b',c,d,e',t,f,g,k9,rest,υ,hn9,ε⟩
  rw[Xla (xm υ)] at ε
  have D:qW 26 bk=some (ns++[a,b',c,d,e',t,f,g,k9],rest):=by
   rw[show 26=17+9 from rfl,vo,υ]
   simp only[Option.bind_some,hn9,Option.map_some]
  obtain⟨N26,hN26⟩:∃N26,N26=ns++[a,b',c,d,e',t,f,g,k9]:=⟨_,rfl⟩
  rw[<-hN26] at D ε
  clear hN26 υ hn9
  have hre:=yT hbk D
  have hrl:=ZI hbk D
  simp only[go_sem]
  refine qF (jr (jr ?_))
  refine j3a [] _ [_] rfl rfl (by decide) ?_
  simp only[go_sem,t4]
  have S:h.length+2<(H++[wS (xE (.v (.slice none 0 0)))]).length:=by rw[ze];omega
  have C:H.length<(H++[wS (xE (.v (.slice none 0 0)))]).length:=by rw[ze];exact Nat.lt_succ_self _
  have E:H.length≠h.length+2:=by omega
  have hfr1:FrR H.length (h.length+2) H h':=λm o z1 z2 z3=>ε.fr m o z1 z2 (zf z3)
  refine vX (XOa _ (h.length+2) _ rest (ε.eye S) ⟨rfl,λ_=>rfl⟩ hre (by omega)) ?_ ?_
  rotate_left
  ·rintro ch h2 ⟨rfl,h1,h3⟩
   have l:FrR H.length (h.length+2) H h2:=λm o z1 z2 z3=>h3 m o z1 (hfr1 m o z1 z2 z3)
   obtain⟨L,hL,_⟩:=hp
   refine⟨rfl,Qc hm (wI Z (Ym D h1) ω),by simp only[go_sem,t2],by simp only[go_sem,t3],⟨_,l _ _ (by omega) (by omega) k0⟩,⟨_,l _ _ (by omega) (by omega) k1⟩,XV λj o O=>l j o ?_ ?_ (by rw[hL];exact zf O)⟩
   ·have:=(zd.1 O).1
    omega
   ·have:=(zd.1 O).1
    omega
  rintro r2 h2 ⟨nf,b2,hmf,rfl,rfl⟩
  have U:=ε.seti S b2
  obtain⟨_,hf64,hb2,hfl⟩:=Qb hre hmf
  obtain⟨F,rfl⟩:=Int.eq_ofNat_of_zero_le hf64.1
  simp only[go_sem]
  obtain⟨G,hG⟩:∃G,G=H++[wS (xE (.v (.slice none 0 0)))]:=⟨_,rfl⟩
  obtain⟨X,hRv⟩:∃X,X=wi N26:=⟨_,rfl⟩
  have hG2:=hG
  simp only[xE] at hG2
  rw[<-hG] at S C
  rw[<-hG2] at U
  rw[<-hRv] at U
  obtain⟨h3,hh3⟩:∃h3,h3=h'.set (h.length+2) (vu (.sl 1 (b2.map qN))):=⟨_,rfl⟩
  rw[<-hh3] at U⊢
  clear ε hh3
  have hGl:G.length=H.length+1:=by rw[hG,ze];rfl
  have hb2l:b2.length<=rest.length:=by
   obtain⟨e1,_,_,_⟩:=Qb hre hmf
   rw[e1,ze];omega
  have hFb:F<=b2.length:=by omega
  refine qF (xW (Zo (λm T s=>∃(n:Nat) (V N:List Int) (fv:AV),n<=F/\qW (2*n) b2=some (V,N)/\StR G H.length (h.length+2) (jJ X fv) N s/\OwnS G s 105 2 fv ((flgs V).map jT)/\
   T 2= .ptr h.length 0/\T 3= .ptr (h.length+1) 0/\T 4= .ptr (h.length+2) 0/\T 5= .ptr H.length 0/\T 11=i64 M/\T 12=i64 k/\T 16=i64 F/\T 17=i64 n/\m=F - n) F
   ⟨0,[],b2,.v (.slice none 0 0),by omega,rfl,U,.inl ⟨rfl,rfl⟩,by simp only[go_sem,t2],by simp only[go_sem,t3],by simp only[go_sem,t4],by simp only[go_sem],by simp only[go_sem,z],by simp only[go_sem,A],by simp only[go_sem],by(simp only[go_sem]<;>rfl),rfl⟩ ?_))
  clear U t2 t3 t4 z A
  rintro m T s ⟨n,V,N,fv,hn,w,kh,ν,t2,t3,t4,t5,z,A,ψ,t17,rfl⟩
  have ξ:=yT hb2 w
  have hbl2:=ZI hb2 w
  refine qi (by decide) ?_
  simp only[go_sem,ψ,t17]
  refine qF (qi (by decide) ?_)
  simp only[go_sem]
  refine ways (λe=>?_) (λe=>?_)
  ·have hltn:=dlt e
   simp only[go_sem]
   refine qF (jr (xW ?_))
   refine qi (by decide) ?_
   simp only[go_sem]
   refine qF (jr ?_)
   refine Zs [_,_,_] _ rfl rfl (by decide) ?_
   simp only[go_sem,t4]
   have θ:=kh.app (M:=[.box 105 [i64 0,i64 0],.row 109 1 [[.ptr s.length 0],[.ptr s.length 1]] 0]) (zp rfl (zF rfl))
   have Y:=ν.app [.box 105 [i64 0,i64 0],.row 109 1 [[.ptr s.length 0],[.ptr s.length 1]] 0]
   have ι:=kh.len
   have P:(s++[Ob.box 105 [i64 0,i64 0],.row 109 1 [[.ptr s.length 0],[.ptr s.length 1]] 0])[s.length]? =some (.box 105 [i64 0,i64 0]):=by rw[zM rfl];rfl
   have hz0:SlOf (s++[Ob.box 105 [i64 0,i64 0],.row 109 1 [[.ptr s.length 0],[.ptr s.length 1]] 0]) (.tl (s.length+1) 0) 1 ([(s.length,0),(s.length,1)].map λp=>[.ptr p.1 p.2]):=vM (ty:=109) (by rw[zN (k:=1) rfl];rfl)
   refine vX (WX θ E C S rfl ξ (by omega) _ [(s.length,0),(s.length,1)] hz0 (λp hp=>by
    simp only[zH,List.not_mem_nil,or_false] at hp
    rcases hp with rfl|rfl
    ·exact .inr ⟨ι,_,_,P,by show 0<2;decide⟩
    ·exact .inr ⟨ι,_,_,P,by show 1<2;decide⟩) (by simp) (by show 2<1048576;decide)) ?_ ?_
   rotate_left
   ·rintro ch h4 ⟨rfl,h1,h5⟩
    have l:FrR H.length (h.length+2) H h4:=λm o z1 z2 z3=>h5 m o z1 z2 (by rw[hG];exact zf z3)
    obtain⟨L,hL,_⟩:=hp
    have hnone:qW (2*F) b2=none:=by
     have:qW (2*n+2) b2=none:=by rw[vo,w];simp only[Option.bind_some];rw[show qW 2 N=none from h1];rfl
     rw[show 2*F=2*n+2+(2*F - (2*n+2)) by omega]
     exact Jm this
    refine⟨rfl,Qc hm (wI Z (Yn D hmf (by rw[Int.toNat_natCast];exact hnone)) ω),by simp only[go_sem,t2],by simp only[go_sem,t3],⟨_,l _ _ (by omega) (by omega) k0⟩,⟨_,l _ _ (by omega) (by omega) k1⟩,XV λj o O=>l j o ?_ ?_ (by rw[hL];exact zf O)⟩
    ·have:=(zd.1 O).1
     omega
    ·have:=(zd.1 O).1
     have hHh:h.length<=H.length:=by rw[hL,ze];omega
     omega
   rintro r h4 ⟨rfl,ns2,b3,hn2,rfl⟩
   obtain⟨x,y,rfl⟩:=YDa (xm hn2)
   have hb3:=yT ξ hn2
   have η:qW (2*(n+1)) b2=some (V++[x,y],b3):=by
    rw[show 2*(n+1)=2*n+2 by omega,vo,w]
    simp only[Option.bind_some]
    rw[show qW 2 N=some ([x,y],b3) from hn2]
    rfl
   have hfsn:flgs (V++[x,y])=flgs V++[⟨x,y⟩]:=zqa (xm w)
   obtain⟨K,hK⟩:∃K,K=s++[Ob.box 105 [i64 0,i64 0],.row 109 1 [[.ptr s.length 0],[.ptr s.length 1]] 0]:=⟨_,rfl⟩
   rw[<-hK] at θ Y P hz0⊢
   have e1:wZ K [(s.length,0),(s.length,1)] [x,y]=K.set s.length (.box 105 [i64 x,i64 y]):=by
    show wY (wY K (s.length,0) x) (s.length,1) y=_
    rw[kB (p:=(s.length,0)) P,kB (p:=(s.length,1)) (zq P),qh]
    rfl
   rw[e1]
   have k3:=(θ.setL ι (o:= .box 105 [i64 x,i64 y]) rfl).seti S b3
   have hli:s.length≠h.length+2:=by omega
   have κ:=(Y.setB (o:= .box 105 [i64 x,i64 y]) P).setB (o:=vu (.sl 1 (b3.map qN))) (by rw[zc hli];exact θ.eye S)
   have hf3:((K.set s.length (.box 105 [i64 x,i64 y])).set (h.length+2) (vu (.sl 1 (b3.map qN))))[s.length]? =some (.box 105 [i64 x,i64 y]):=by
    rw[zc (by omega)];exact zq P
   obtain⟨J,hJ⟩:∃J,J=(K.set s.length (.box 105 [i64 x,i64 y])).set (h.length+2) (vu (.sl 1 (b3.map qN))):=⟨_,rfl⟩
   rw[<-hJ] at k3 κ hf3⊢
   clear hJ e1 θ Y P hz0 hK
   have hrJ:=k3.row E C
   have β:∀M,(J++M)[H.length]? =some (wS (jJ X fv)):=λM=>zf hrJ
   have hfJM:∀M,(J++M)[s.length]? =some (.box 105 [i64 x,i64 y]):=λM=>zf hf3
   have hJl:=k3.len
   simp only[go_sem]
   refine qF (qz _ (by decide) ?_)
   rcases κ with⟨rfl,R⟩|⟨id,st,u1,rfl,u3⟩
   ·simp only[go_sem,t5,hrJ,β,hf3]
    refine qF (qz _ (by decide) ?_)
    simp only[go_sem,t17]
    refine⟨F - (n+1),by omega,n+1,V++[x,y],b3,.tl (J.length+1) 0,by omega,η,(k3.app (zp rfl (zF rfl))).setj E C (jJ X (.tl (J.length+1) 0)),?_,t2,t3,t4,t5,z,A,ψ,qc (by omega) rfl,rfl⟩
    refine OwnS.setB (.inr ⟨_,0,?_,rfl,?_⟩) (β _)
    ·omega
    ·rw[hfsn,zy,R,zN (k:=1) rfl];rfl
   ·have σ:∀M,(J++M)[id]? =some (.row 105 2 ((flgs V).map jT) st):=λM=>zf u3
    have μ:(((flgs V).map jT).length+1)*17<=140737488355328:=by
     rw[zb,(Vm (k:=n) (xm w)).2]
     omega
    have u:∀M o',((J++M).set id o')[H.length]? =some (wS (jJ X (.tl id st))):=λM o'=>by
     rw[zc (by omega)];exact β M
    simp only[go_sem,t5,hrJ,β,hf3,σ,μ,u]
    refine qF (qz _ (by decide) ?_)
    simp only[go_sem,t17]
    refine⟨F - (n+1),by omega,n+1,V++[x,y],b3,.tl id (st+1),by omega,η,((k3.app (zF rfl)).setL u1 rfl).setj E C (jJ X (.tl id (st+1))),?_,t2,t3,t4,t5,z,A,ψ,qc (by omega) rfl,rfl⟩
    refine OwnS.setB (.inr ⟨id,st+1,u1,rfl,?_⟩) (u _ _)
    rw[hfsn,zy]
    exact zq (σ _)
  ·have hge:=xc e
   have hnF:n=F:=by omega
   subst hnF
   have hFl:=(Vm (k:=n) (xm w)).2
   have htier:Fit X.tier:=by rw[hRv];exact ky _
   simp only[go_sem]
   refine VQ (λT2 h2=>StR G H.length (h.length+2) (jJ X (.sl 2 ((flgs V).map jT))) N h2/\T2 2= .ptr h.length 0/\T2 3= .ptr (h.length+1) 0/\T2 4= .ptr (h.length+2) 0/\T2 5= .ptr H.length 0/\T2 11=i64 M/\T2 12=i64 k) (λnx=>?_) ?_
   ·rcases ν with⟨rfl,R⟩|⟨id,st,u1,rfl,u3⟩
    ·refine j6a 2 (a:=ZD X) (kh.row E C) (nx _ _ ⟨?_,by simp only[go_sem,t2],by simp only[go_sem,t3],by simp only[go_sem,t4],by simp only[go_sem,t5],by simp only[go_sem,z],by simp only[go_sem,A]⟩)
     rw[R]
     exact kh.setj E C _
    ·exact WZ (a:=ZD X) (kh.row E C) u3 (nx _ _ ⟨(kh.setL u1 rfl).setj E C _,by simp only[go_sem,t2],by simp only[go_sem,t3],by simp only[go_sem,t4],by simp only[go_sem,t5],by simp only[go_sem,z],by simp only[go_sem,A]⟩)
   ·clear t2 t3 t4 t5 z A ψ t17 kh ν
    rintro T2 h2 ⟨kz,t2,t3,t4,t5,z,A⟩
    have hrz:=kz.row E C
    have hzl:=kz.len
    refine qF (jr (qi (by decide) ?_))
    simp only[go_sem,t5,hrz]
    refine zi (vpa _ X _ (flgs V) htier ⟨rfl,λ_=>rfl⟩) ?_
    rintro _ h5 ⟨rfl,rfl⟩
    have l:FrR H.length (h.length+2) H h5:=λm o z1 z2 z3=>kz.fr m o z1 z2 (by rw[hG];exact zf z3)
    have I:=XU D hmf (by rw[Int.toNat_natCast];exact w)
    cases hok:jU X (flgs V)
    ·simp only[go_sem,hok,qE,Bool.not_false]
     refine qF (vU (t:=true) (by simp only[go_sem]<;>rfl) (λ_=>?_) (λe=>by cases e))
     refine J2 XN XO (by decide) (by decide) ?_
     obtain⟨L,hL,_⟩:=hp
     rw[<-hRv,hok] at I
     refine⟨rfl,Qc hm (wI Z I ω),by simp only[go_sem,t2],by simp only[go_sem,t3],⟨_,l _ _ (by omega) (by omega) k0⟩,⟨_,l _ _ (by omega) (by omega) k1⟩,XV λj o O=>l j o ?_ ?_ (by rw[hL];exact zf O)⟩
     ·have:=(zd.1 O).1
      omega
     ·have:=(zd.1 O).1
      have hHh:h.length<=H.length:=by rw[hL,ze];omega
      omega
    ·rw[<-hRv,if_pos hok] at I
     have hp5:Pre h h5:=by
      obtain⟨L,e1,e2⟩:=kz.eq
      rw[e1]
      have hpG:Pre h G:=by rw[hG];exact hp.app (zF rfl)
      have hHh:h.length<=H.length:=by omega
      exact((hpG.set hHh rfl).set (by omega) rfl).app e2
     have hbk3:By N:=ξ
     have hrd2:=Yk Z I
     have hk0:=l _ _ (by omega) (by omega) k0
     have Q:∀M,(h5++M)[h.length]? =some (.box 32 [yv]):=λM=>zf hk0
     have hrzM:∀M,(h5++M)[H.length]? =some (wS (jJ X (.sl 2 ((flgs V).map jT)))):=λM=>zf hrz
     simp only[go_sem,hok,qE,Bool.not_true]
     refine qF (vU (t:=false) (by simp only[go_sem]<;>rfl) (λe=>by cases e) (λ_=>Qs ?_))
     refine qF (qz _ (by decide) ?_)
     rcases γ with⟨rfl,R⟩|⟨id,st,u1,rfl,u3⟩
     ·simp only[go_sem,t2,t5,hk0,Q,hrz,hrzM]
      refine qF (qz _ (by decide) ?_)
      simp only[go_sem,A]
      refine⟨M - (k+1),by omega,k+1,W++[(X,flgs V)],N,.tl (h5.length+1) 0,by omega,hrd2,hbk3,by omega,(hp5.app (zp rfl (zF rfl))).set (zo _) rfl,zq (Q _),?_,?_,?_,t2,t3,t4,z,qc (by omega) rfl,rfl⟩
      ·refine OwnS.setB (.inr ⟨_,0,?_,rfl,?_⟩) (Q _)
       ·have:=hp5.len;omega
       ·rw[zy,R,zN (k:=1) rfl];rfl
      ·rw[zc (by omega)]
       exact zf (l _ _ (by omega) (by omega) k1)
      ·rw[zc (by omega)]
       exact zf (kz.eye S)
     ·have u4:=l _ _ (λe=>by rw[e,k2] at u3;cases u3) (λe=>by have:=(zd.1 u3).1;omega) u3
      have σ:∀M,(h5++M)[id]? =some (.row 45 27 (W.map λq=>ZD q.1++[.sl 2 (q.2.map jT)]) st):=λM=>zf u4
      have μ:((W.map λq:RowV × List Flg=>ZD q.1++[AV.sl 2 (q.2.map jT)]).length+1)*233<=140737488355328:=by
       have:=(QV hb1 Z).1
       rw[zb]
       omega
      have u:∀M o',((h5++M).set id o')[h.length]? =some (.box 32 [.tl id st]):=λM o'=>by
       rw[zc (λe=>by rw[e,k0] at u3;cases u3)];exact Q M
      simp only[go_sem,t2,t5,hk0,Q,hrz,hrzM,σ,μ,u]
      refine qF (qz _ (by decide) ?_)
      simp only[go_sem,A]
      have ne1:id≠h.length+1:=λe=>by rw[e,k1] at u3;cases u3
      have ne2:id≠h.length+2:=λe=>by rw[e,k2] at u3;cases u3
      refine⟨M - (k+1),by omega,k+1,W++[(X,flgs V)],N,.tl id (st+1),by omega,hrd2,hbk3,by omega,((hp5.app (zF rfl)).set u1 rfl).set (zo _) rfl,zq (u _ _),?_,?_,?_,t2,t3,t4,z,qc (by omega) rfl,rfl⟩
      ·refine OwnS.setB (.inr ⟨id,st+1,u1,rfl,?_⟩) (u _ _)
       rw[zy]
       exact zq (σ _)
      ·rw[zc (by omega),zc ne1]
       exact zf (l _ _ (by omega) (by omega) k1)
      ·rw[zc (by omega),zc ne2]
       exact zf (kz.eye S)
 ·have hge:=xc e
  have hkM:k=M:=by omega
  subst hkM
  simp only[go_sem]
  refine qF (jr (qi (by decide) ?_))
  simp only[go_sem,t4,k2,zb]
  have I:=kza hm Z
  cases q1:decide ((bk.length:Int)>0)
  ·have hbn:bk=[]:=zz (by have:=of_decide_eq_false q1;omega)
   rw[if_pos hbn] at I
   refine qF (vU (t:=false) (by simp only[go_sem,q1]<;>rfl) (λe=>by cases e) (λ_=>Qs ?_))
   refine qF (qz _ (by decide) ?_)
   have hyo:=γ.rows.one
   have k1M:∀o,(H.set h.length o)[h.length+1]? =some (.box 37 [i64 0]):=λo=>by rw[zc (by omega)];exact k1
   have hyc:=γ.rows.cells
   simp only[go_sem,t2,t3,k0,k1,k1M,hyo,hyc]
   have hp2:=(hp.set (i:=h.length) (o:= .box 32 [yv]) (zo _) rfl).set (i:=h.length+1) (o:= .box 37 [i64 0]) (by omega) rfl
   have ho2:OwnS h _ 45 27 yv (W.map ZH):=(γ.setB (o:= .box 32 [yv]) k0).setB (o:= .box 37 [i64 0]) (k1M _)
   have g0:((H.set h.length (.box 32 [yv])).set (h.length+1) (.box 37 [i64 0]))[h.length]? =some (.box 32 [yv]):=by rw[zc (by omega)];exact zq k0
   have g1:((H.set h.length (.box 32 [yv])).set (h.length+1) (.box 37 [i64 0]))[h.length+1]? =some (.box 37 [i64 0]):=zq (k1M _)
   obtain⟨L,hL,hN⟩:=hp2
   refine⟨.tup [yv,i64 0],by simp only[go_sem,t2,t3,g0,g1,hyo],W,L,I,hL,hN,?_⟩
   rw[hL] at ho2
   exact .tup (.cons (.new (by decide) (z7a _) (ho2.new (zo _))) (.lt rfl))
  ·have hbn:bk≠[]:=λe=>by rw[e] at q1;cases q1
   rw[if_neg hbn] at I
   refine qF (vU (t:=true) (by simp only[go_sem,q1]<;>rfl) (λ_=>?_) (λe=>by cases e))
   refine J2 XN XO (by decide) (by decide) ?_
   obtain⟨L,hL,_⟩:=hp
   exact⟨rfl,I,by simp only[go_sem,t2],by simp only[go_sem,t3],⟨_,k0⟩,⟨_,k1⟩,L,hL⟩
def vwa(b:List Int):AV:=match ko b with
 | some W=> .tup [.sl 27 (W.map ZH),i64 0]
 | none=> .tup [.v (.slice none 0 0),i64 200]
theorem YFa(h:List Ob)(x:AV)(b:List Int)(k:SlOf h x 1 (b.map qN))(j:By b)(i:b.length<1073741824):ACalls Tryz.prog 16 [x] h λr h'=>r=vwa b/\h'=h:=by
 obtain⟨R,f⟩:∃R:AV->List Ob->Prop,R=λr h'=>XTa h b r h'∨(ko b=none/\r= .tup [.v (.slice none 0 0),i64 200]/\h'=h):=⟨_,rfl⟩
 have hex:∃r h',R r h'/\ResK h h':=by
  rw[f]
  cases e:ko b with
  | none=>exact⟨_,h,.inr ⟨rfl,rfl,rfl⟩,.refl⟩
  | some W=>exact⟨.tup [.sl 27 (W.map ZH),i64 0],h,.inl ⟨W,[],e,by simp,xr,.lt (by simp only[AV.lt,qJ,z7a,Bool.and_self])⟩,.refl⟩
 have key:=j5a h x R (ko b=none) hex λB=>(K3a h x b k j i B).mono λe T h' q=>by
  cases e with
  | normal=>obtain⟨r,d,c⟩:=q;exact⟨r,d,by rw[f];exact .inl c⟩
  | ret=>obtain⟨r,d,c⟩:=q;exact⟨r,d,by rw[f];exact .inl c⟩
  | panic l=>exact q
  | _=>exact q
 have a:ko b=none->∀r h',(r=AV.tup [.v (.slice none 0 0),i64 200]/\h'=h)->∃L,h'=h++L/\NoRes L/\FrzTo h L r (vwa b):=λe r h' ⟨d,c⟩=>by
  subst d c
  refine⟨[],by simp,xr,?_⟩
  unfold vwa
  rw[e]
  exact .lt rfl
 refine Yo (QH key λr h' q=>⟨r,?_,.refl r⟩)
 rw[f] at q
 rcases q with(⟨W,L,e,d,c,g⟩|⟨e,q⟩)|⟨e,q⟩
 ·refine⟨L,d,c,?_⟩
  unfold vwa
  rw[e]
  exact g
 ·exact a e r h' q
 ·exact a e r h' q
def s20:Setup:=⟨1,[],(1,1),[((1,1),(1,1))],[(1,1)],[(1,1)],0,1,36000,0,86400,0,28800,43200,144000,0,0,[1500],0,0,0,[(0,100)]⟩
def l20:List Ev:=[⟨1,0,0,1,0,0,0,0,0,0,0⟩,⟨2,0,0,3,0,0,0,1799,0,0,0⟩,⟨3,0,3600,2,0,0,0,0,0,0,0⟩,⟨4,0,3601,2,0,0,0,0,0,0,0⟩]
def vF:RowV × List Flg:=jI s20 l20 0 0
def vxa:RowV × List Flg:=jI s20 l20 1 0
def rm2:RowV:=⟨0,0,0,λ_=>0,λ_=>0,(0,0),(0,0),0, -2,0,0,0⟩
theorem WCa:[vF.1.tot 0,vF.1.tot 1,vF.1.tot 2,vF.1.tot 3,vF.1.tot 4,vF.1.tot 5,vF.1.tot 6]=[0,3600,0,0,0,0,0]:=by kernel_rfl
theorem WDa:[vF.1.pays 1,vF.1.earned.1,vF.1.earned.2,vF.1.perf.1,vF.1.perf.2,vF.1.elig,vF.1.tier,vF.1.extra,vF.1.total]=[1500,1800,1,1,2,3600,0,100,1600]:=by kernel_rfl
theorem WEa:vF.2.map (·.id)=[4]:=by kernel_rfl
theorem WFa:jU vF.1 vF.2=true:=by kernel_rfl
theorem Xma:[vxa.1.err,vxa.1.tier]=[80, -1]:=by kernel_rfl
theorem wr0:jV []=([0],0):=by kernel_rfl
theorem wrm:jV [(rm2,[])]=([],200):=by kernel_rfl
theorem Qxa(h:List Ob):ACalls Tryz.prog 16 [.v (.slice none 0 0)] h λr h'=>r= .tup [.v (.slice none 0 0),.v (.int .i64 200)]/\h'=h:=by
 refine⟨by kernel_rfl,⟨_,_,⟨rfl,rfl⟩,.refl⟩,λφ i B w g vs f hB a=>?_⟩
 obtain⟨u,r,rfl,d,c⟩:=a
 have d:u= .slice none 0 0:=d
 have c:r=[]:=c
 subst d c
 refine(Qba 0 w).mono ?_
 rintro e w' ⟨rfl,b⟩
 exact⟨_,_,h,g,rfl,⟨rfl,rfl⟩,.refl,⟨f.ext b,Le.ext b,b.mono hB,Nat.le_trans hB b.size⟩,⟨_,rfl,⟨_,_,rfl,rfl,⟨_,_,rfl,rfl,rfl⟩⟩⟩⟩
theorem Qya:SFit s20:=⟨by simp[Fit,s20],by simp[jf,Fit,s20],by simp[jf,Fit,s20],by simp[jf,Fit,s20],by simp[jf,Fit,s20],by simp[jf,Fit,s20],by simp[s20],by simp[s20],by simp[s20],by simp[s20],by simp[s20],by simp[s20]⟩
def a20(n:Nat):SA:=⟨.v (.slice none 0 0),.tl (n+2) 0,.tl (n+3) 0,.tl (n+4) 0,.tl (n+5) 0,.tl (n+6) 0⟩
def H20(n:Nat):List Ob:=[.box 30 (qa s20 (a20 n)),.box 24 (jG (1,1)),.row 183 4 (s20.elements.map X6) 0,.row 24 2 (s20.classes.map jG) 0,.row 24 2 (s20.gears.map jG) 0,.row 3 1 (s20.rates.map qI) 0,.row 185 2 (s20.tiers.map jG) 0]
theorem WGa(h:List Ob):ACalls Tryz.prog 43 [] h λr h'=>r=jm s20 (a20 h.length)/\h'=h++H20 h.length:=by
 refine zl Tryz.f43 [.cell 0 30] 16 rfl rfl rfl rfl rfl rfl (by decide) (⟨_,_,⟨rfl,rfl⟩,q8⟩) λB=>?_
 simp only[go_sem]
 exact⟨jm s20 (a20 h.length),by(simp only[go_sem]<;>rfl),.inl ⟨rfl,rfl⟩⟩
theorem XUa(h:List Ob):SIn (h++H20 h.length) s20 (a20 h.length):=
 ⟨kja,vM (by rw[zN (k:=2) rfl];rfl),vM (by rw[zN (k:=3) rfl];rfl),vM (by rw[zN (k:=4) rfl];rfl),vM (by rw[zN (k:=5) rfl];rfl),vM (by rw[zN (k:=6) rfl];rfl)⟩
theorem WHa(n:Nat):NoRes (H20 n):=λo a=>by
 simp only[H20,zH,List.not_mem_nil,or_false] at a
 rcases a with rfl|rfl|rfl|rfl|rfl|rfl|rfl<;>rfl
theorem WIa(h:List Ob):ACalls Tryz.prog 43 [] h λr h'=>∃a M,r=jm s20 a/\SIn h' s20 a/\h'=h++M/\NoRes M:=
 (WGa h).mono λr h' ⟨c,b⟩=>⟨_,_,c,by rw[b];exact XUa h,b,WHa _⟩
theorem Xna:∀ {l:List Flg},l.map (·.id)=[4]->∃f:Flg,l=[f]/\f.id=4
 | [],h=>by simp at h
 | [f],h=>⟨f,rfl,by simpa using h⟩
 | a::b::l,h=>by simp at h
set_option maxHeartbeats 4000000 in
theorem YGa:xv Tryz.prog 12 [] (bl true):=λh=>by
 refine zl Tryz.f12 [.tmp 0] 130 rfl rfl rfl rfl rfl rfl (by decide) (⟨_,_,⟨rfl,rfl⟩,.refl⟩) λB=>?_
 simp only[go_sem]
 obtain⟨h0,d⟩:∃h0,h0=h++[Ob.row 75 11 (l20.map evC) 0]:=⟨_,rfl⟩
 have c:=d
 simp only[l20,List.map_cons,List.map_nil,evC] at c
 rw[<-c]
 clear c
 have y:h0[h.length]? =some (.row 75 11 (l20.map evC) 0):=by rw[d,zM rfl];rfl
 have l:Pre h h0:=⟨_,d,zF rfl⟩
 refine zi (WGa _) ?_
 rintro _ C ⟨rfl,u⟩
 have k1:=XUa h0
 have j:=l.app (WHa h0.length)
 have e:C[h.length]? =some (.row 75 11 (l20.map evC) 0):=by rw[u];exact zf y
 rw[<-u] at k1 j
 clear u
 simp only[go_sem]
 refine zi (Wpa _ s20 (a20 h0.length) k1 Qya _ l20 0 0 (vM e) (by decide)) ?_
 rintro _ b ⟨rfl,a⟩
 rw[a]
 clear a
 have t:=WCa
 have w:=WDa
 have I:=WEa
 have m:=WFa
 have D:=(Qqa Qya l20 0 0 (by decide)).1
 have i:vF=jI s20 l20 0 0:=rfl
 rw[<-i] at D⊢
 generalize vF=W at t w I m D⊢
 clear i
 obtain⟨R,F⟩:=W
 obtain⟨f,s,P⟩:=Xna I
 have s:F=[f]:=s
 subst s
 simp only[List.cons.injEq,and_true] at t w
 obtain⟨a0,a1,a2,a3,a4,a5,G⟩:=t
 obtain⟨b0,b1,b2,b3,b4,b5,b6,J,E⟩:=w
 simp only[go_sem,ZD,List.cons_append,List.nil_append]
 refine zi (Qpa _ _ [] kja (λq n=>by cases n) (by decide)) ?_
 rintro _ b ⟨rfl,a⟩
 rw[a,show jz []=[] from rfl,wr0]
 clear a
 simp only[go_sem]
 refine zi (Qxa _) ?_
 rintro _ b ⟨rfl,a⟩
 rw[a]
 clear a
 simp only[go_sem]
 refine zi (Qpa _ _ [(rm2,.v (.slice none 0 0),[])] (vM (ty:=45) (st:=0) (by rw[zN (k:=1) rfl];rfl)) (λq n=>by rw[zJ.1 n];exact⟨kja,by simp[Fit,rm2],by decide⟩) (by decide)) ?_
 rintro _ b ⟨rfl,a⟩
 rw[a,show jz [(rm2,AV.v (.slice none 0 0),[])]=[(rm2,[])] from rfl,wrm]
 clear a
 simp only[go_sem]
 refine zi (WIa _) ?_
 rintro _ b ⟨z,M,rfl,k2,a,S⟩
 have Q:b[C.length]? =some (.box 45 (jJ R (.sl 2 [jT f]))):=by rw[a];exact zf (by rw[zM rfl];rfl)
 have o:b[h.length]? =some (.row 75 11 (l20.map evC) 0):=by rw[a];exact zf (zf e)
 have A:Pre h b:=by rw[a];exact(j.app (zp rfl (zF rfl))).app S
 clear a
 simp only[go_sem]
 refine zi (Wpa _ s20 z k2 Qya _ l20 1 0 (vM o) (by decide)) ?_
 rintro _ K ⟨rfl,a⟩
 rw[a]
 clear a
 have g:=Xma
 have i:vxa=jI s20 l20 1 0:=rfl
 rw[<-i]
 generalize vxa=W2 at g⊢
 clear i
 obtain⟨U,T⟩:=W2
 simp only[List.cons.injEq,and_true] at g
 obtain⟨g,O⟩:=g
 have x:∀M,(b++M)[C.length]? =some (.box 45 (jJ R (.sl 2 [jT f]))):=λM=>zf Q
 have p:zxa [qN 0]=some [0]:=rfl
 simp only[go_sem,p,ZD,List.cons_append,List.nil_append,x,List.length_cons,List.length_nil,Nat.zero_add,qE,bne_self_eq_false,XSa,w5a,a0,a1,a2,a3,a4,a5,G,b0,b1,b2,b3,b4,b5,b6,J,E,P,g,O,beq_self_eq_true,Bool.and_self,j2a,w7a]
 have m:jU R [f]=true:=m
 have r:=λH=>Qoa H R (.sl 2 [jT f]) [f] D ⟨rfl,λ_=>rfl⟩ (by show 1<524288;decide)
 rw[m] at r
 simp only[jJ,a0,a1,a2,a3,a4,a5,G,b0,b1,b2,b3,b4,b5,b6,J,E] at r
 refine zi (r _) ?_
 rintro _ K ⟨rfl,a⟩
 rw[a]
 clear a
 simp only[go_sem,qE]
 obtain⟨L,N,_⟩:=A
 rw[N,zn]
 refine zk ?_<;>(simp only[go_sem]<;>try rfl)
theorem YEa(h:List Ob)(s:Setup)(a:SA)(k:SIn h s a)(x:AV)(l:List Ev)(j:SlOf h x 11 (l.map evC)):ACalls Tryz.prog 13 [jm s a,x] h λr h'=>r=bl (x5a s && decide (l.length<=60))/\h'=h:=by
 refine zl Tryz.f13 [.tmp 4] 12 rfl rfl rfl rfl rfl rfl (by decide) (⟨_,_,⟨rfl,rfl⟩,.refl⟩) λB=>?_
 simp only[go_sem,k.w.one,k.e.one,k.c.one,k.g.one,k.r.one,k.t.one]
 refine zi (c25 _ s a (k.app _)) ?_
 rintro _ m ⟨rfl,f⟩
 subst f
 have i:∀M,zZ (h++M) x=_:=λM=>(j.app M).rows
 have d:decide ((l.length:Int)<=60)=decide (l.length<=60):=decide_eq_decide.2 (by omega)
 cases b:x5a s with
 | false=>
   simp only[go_sem,b,qE]
   refine zk ?_<;>(simp only[go_sem,b,Bool.false_and]<;>try rfl)
 | true=>
   simp only[go_sem,b,qE,i,zb,d]
   refine zk ?_<;>(simp only[go_sem,b,Bool.true_and]<;>try rfl)
