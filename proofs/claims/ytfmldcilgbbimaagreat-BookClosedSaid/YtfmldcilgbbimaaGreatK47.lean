/-
  Joined.
-/
import Derived.Test.YtfmldcilgbbimaaGreatK46
import Derived.Test.YtfmldcilgbbimaaGreatK20
import Derived.Test.YtfmldcilgbbimaaGreatK23
import Derived.Test.YtfmldcilgbbimaaGreatK42
import Derived.Test.YtfmldcilgbbimaaGreatK38
set_option linter.unusedSimpArgs false
set_option linter.unusedVariables false
namespace Go.Proofs.YtfmldcilgbbimaaGreat.Ax
open Go Go.Proofs Go.RowKit
set_option maxRecDepth 100000
abbrev zB:Ob:= .box 64 (xX zS zA xb xb)
structure AllI (h h':List Ob) (s:Setup) (b:Bk) (y:AV) (rows:List (List AV)):Prop where
 pre:Pre h h'
 b0:h'[h.length]? =some (.box 64 (xX s (frA s) (BX b) (BC b)))
 b1:h'[h.length+1]? =some zB
 own:OwnS h h' 69 4 y rows
theorem AllI.app {h h':List Ob} {s:Setup} {b:Bk} {y:AV} {rows:List (List AV)} (k:AllI h h' s b y rows) {M:List Ob} (a:NoRes M):AllI h (h'++M) s b y rows:=
 ⟨k.pre.app a,zb k.b0,zb k.b1,k.own.app M⟩
theorem AllI.put {h h':List Ob} {s:Setup} {b:Bk} {y:AV} {rows:List (List AV)} (k:AllI h h' s b y rows) (a:Bk):AllI h (h'.set h.length (.box 64 (xX s (frA s) (BX a) (BC a)))) s a y rows:=
 ⟨k.pre.set (by omega) rfl,zh k.b0,by rw[List.getElem?_set_ne (by omega)];exact k.b1,k.own.setB k.b0⟩
theorem AllI.row {h h':List Ob} {s:Setup} {b:Bk} {y:AV} {rows:List (List AV)} (k:AllI h h' s b y rows) {id ty e st:Nat} {xs:List (List AV)} (hid:h.length<=id) (a:h'[id]? =some (.row ty e xs st)) {o:Ob} (d:o.isRes=false) {y':AV} {rows':List (List AV)} (c:OwnS h (h'.set id o) 69 4 y' rows'):AllI h (h'.set id o) s b y' rows':=
 ⟨k.pre.set hid d,ve (h0:=h) k.b0 a,ve (h0:=h) k.b1 a,c⟩
theorem w6a {s:Setup} {b:Bk} {l:List Cm} {n:Nat} (a:n<l.length):xI s b (l.take (n+1))=((doP s (xI s b (l.take n)).1 l[n]).1,(xI s b (l.take n)).2++[(doP s (xI s b (l.take n)).1 l[n]).2]):=by
 rw[show l.take (n+1)=l.take n++[l[n]] from (List.take_append_getElem a).symm,jJa]
 rfl
theorem Xpa {l:List Cm} {i:Nat} (h:i<l.length):(l.map Km)[i]? =some (Km l[i]):=by rw[List.getElem?_map,List.getElem?_eq_getElem h];rfl
theorem Qya {n:Nat}:∀l:List An,zU n (l.map jE)=true
 | []=>rfl
 | a::l=>by
   rw[List.map_cons,zU,Qya l]
   simp only[AV.lt,zG,Xv,zNa,QZ,Bool.and_self]
theorem W9a {n:Nat} {s:Setup} {b:Bk}:(BV s b).lt n=true:=by
 simp only[frA,AV.lt,zG,JD,JE,Zz,wg,vz,Bool.and_self]
theorem Yaa (h:List Ob) (s:Setup) (f:SFit s) (b:Bk) (i:BkI s b) (x:AV) (l:List Cm) (hx:SlOf h x 16 (l.map Km)) (hl:l.length<1048576) (W:s.rates.length<4096):
  ACalls Tryz.prog 33 [BV s b,x] h λr h'=>∃L y,h'=h++L/\NoRes L/\r= .tup [BV s (xI s b l).1,y]/\New h 4 y ((xI s b l).2.map jE) L:=by
 have hex:∃r h',(∃L y,h'=h++L/\NoRes L/\r=AV.tup [BV s (xI s b l).1,y]/\New h 4 y ((xI s b l).2.map jE) L)/\ResK h h':=⟨_,_,⟨[],.sl 4 _,rfl,qh,rfl,λ_ _=>⟨rfl,λ_=>rfl⟩⟩,zR⟩
 have F:=(vE (h:=h) s).ones
 have δ:∀M,zq (h++M) x=some (l.map Km):=λM=>(hx.app M).rows
 refine zf Tryz.f33 [.cell 4 64,.tmp 5] 31 rfl rfl rfl rfl rfl rfl (by decide) (hex) λB=>?_
 simp only[go_sem,F,δ,List.length_map]
 refine zj (by decide) (λm T H=>∃(n:Nat) (y:AV),n<=l.length/\AllI h H s (xI s b (l.take n)).1 y ((xI s b (l.take n)).2.map jE)/\T 2= .ptr h.length 0/\T 4= .ptr (h.length+1) 0/\T 6=y/\T 11=x/\T 12=i64 l.length/\T 13=i64 n/\m=l.length - n) l.length
  ⟨0,nl,by omega,⟨⟨_,rfl,zg rfl (zi rfl)⟩,by rw[zo rfl];rfl,by rw[zm (k:=1) rfl];rfl,.inl ⟨rfl,rfl⟩⟩,by simp only[go_sem],by simp only[go_sem],by (simp only[go_sem]<;>rfl),by simp only[go_sem],by simp only[go_sem],by (simp only[go_sem]<;>rfl),rfl⟩ ?_
 rintro m T H ⟨n,y,hn,c,t2,t4,t6,C,z,p,rfl⟩
 have N:=c.pre.sl hx
 simp only[go_sem,z,p]
 refine ways (λe=>?_) (λe=>?_)
 ·have v:=dlt e
  have u:=Xpa v
  have γ:(n:Int)<l.length:=by omega
  have g:=w6a (s:=s) (b:=b) v
  have X:=N.rows
  have G:=N.at (i:=n) (by simpa using v)
  have J:=jHa (l.take n) i
  obtain ⟨t,P⟩:∃t,t=(xI s b (l.take n)).1:=⟨_,rfl⟩
  obtain ⟨A,R⟩:∃A,A=(xI s b (l.take n)).2:=⟨_,rfl⟩
  rw[<-P, <-R] at g
  rw[<-P] at J c
  rw[<-R] at c
  obtain ⟨q,hq⟩:∃q,q=l[n]:=⟨_,rfl⟩
  rw[<-hq] at u g
  have E:=c.b0
  have a:∀M,(H++M)[h.length]? =some (.box 64 (xX s (frA s) (BX t) (BC t))):=λM=>zb E
  simp only[go_sem,t2,C,p,u,γ,X,G,a,F,List.length_map,Int.toNat_natCast,Int.natCast_nonneg]
  refine zc (cDo _ s f t J q W) ?_
  rintro _ h1 ⟨rfl,e1⟩
  rw[e1]
  obtain ⟨b2,Y⟩:∃b2,b2=(doP s t q).1:=⟨_,rfl⟩
  obtain ⟨w,hw⟩:∃w,w=(doP s t q).2:=⟨_,rfl⟩
  rw[<-Y, <-hw] at g⊢
  simp only[go_sem,t2,F,a]
  refine zn rfl [.res] 1 [(1,0,[]),(0,0,[]),(2,0,[]),(3,0,[]),(4,0,[0]),(5,0,[]),(6,0,[])] rfl (by decide) (by decide) ?_
  rcases c.own with ⟨rfl,K⟩ | ⟨id,st,u1,rfl,u3⟩
  ·simp only[go_sem,t2,t6,p,F,a]
   refine ⟨l.length - (n+1),by omega,n+1,.tl (H.length+4) 0,by omega,?_,t4,rfl,C,z,zx (by omega) rfl,rfl⟩
   rw[g]
   have d:=(c.app (M:=[.box 77 (Km q),.box 64 (xX s (frA s) (BX b2) (BC b2)),.box 69 (jE w),.row 69 4 [jE w] 0,.row 69 4 [jE w] 0]) (zg rfl (zg rfl (zg rfl (zg rfl (zi rfl)))))).put b2
   refine ⟨d.pre,d.b0,d.b1,OwnS.setB (.inr ⟨_,0,?_,rfl,?_⟩) (a _)⟩
   ·have:=c.pre.len;omega
   ·rw[List.map_append,K,zm (k:=4) rfl];rfl
  ·have j:∀M,(H++M)[id]? =some (.row 69 4 (A.map jE) st):=λM=>zb u3
   have σ:A.length<=n:=by rw[R,jIa,List.length_take];omega
   have O:((A.map jE).length+1)*81<=140737488355328:=by rw[List.length_map];omega
   have I:∀M o',((H++M).set id o')[h.length]? =some (.box 64 (xX s (frA s) (BX t) (BC t))):=λM o'=>ve (h0:=h) (a M) (j M)
   have ξ:=(List.getElem?_eq_some_iff.1 u3).1
   have α:∀(o1 U o3 o4 o':Ob),((H++[o1,U,o3,o4]).set id o')[H.length+1]? =some U:=λo1 U o3 o4 o'=>by
    rw[List.getElem?_set_ne (by omega),zm (k:=1) rfl];rfl
   simp only[go_sem,t2,t6,p,F,a,j,O,I,α]
   refine ⟨l.length - (n+1),by omega,n+1,.tl id (st+1),by omega,?_,t4,rfl,C,z,zx (by omega) rfl,rfl⟩
   rw[g]
   have d:=c.app (M:=[.box 77 (Km q),.box 64 (xX s (frA s) (BX b2) (BC b2)),.box 69 (jE w),.row 69 4 [jE w] 0]) (zg rfl (zg rfl (zg rfl (zi rfl))))
   have V:=d.row u1 (j _) (o:= .row 69 4 ((A++[w]).map jE) (st+1)) rfl (.inr ⟨id,st+1,u1,rfl,zh (j _)⟩)
   have Q:=V.put b2
   rw[List.map_append] at Q⊢
   exact Q
 ·have χ:=qU e
  have Z:n=l.length:=by omega
  subst Z
  rw[List.take_length] at c
  have E:=c.b0
  have D:=c.b1
  simp only[go_sem,t2,t4,t6,E,D,F]
  have β:=c.own.rows.one
  have hk:=OwnS.setB (o:= .box 64 (xX s (frA s) (BX (xI s b l).1) (BC (xI s b l).1))) c.own D
  have hp:Pre h (H.set (h.length+1) (.box 64 (xX s (frA s) (BX (xI s b l).1) (BC (xI s b l).1)))):=c.pre.set (by omega) rfl
  have S:(H.set (h.length+1) (.box 64 (xX s (frA s) (BX (xI s b l).1) (BC (xI s b l).1))))[h.length+1]? =some (.box 64 (xX s (frA s) (BX (xI s b l).1) (BC (xI s b l).1))):=zh D
  obtain ⟨L,hL,hN⟩:=hp
  refine ⟨.tup [BV s (xI s b l).1,y],?_,.inl ⟨L,y,hL,hN,rfl,?_⟩⟩
  ·simp only[go_sem,S,t4,β]
  ·rw[hL] at hk
   exact hk.new (Nat.le_refl _)
theorem Yb {P:Program} {f:FuncId} {ar:List AV} {h:List Ob} {u:AV} {e:Nat} {rows:List (List AV)} (q:0<e) (d:u.lt h.length=true) (z:zU h.length rows=true) (c:ACalls P f ar h λr h'=>∃L x,h'=h++L/\NoRes L/\r= .tup [u,x]/\New h e x rows L):ACalls P f ar h λr h'=>r= .tup [u,.sl e rows]/\h'=h:=by
 refine ⟨c.1,⟨_,_,⟨rfl,rfl⟩,.refl⟩,λφ l B w g vs m hB b=>?_⟩
 refine (c.2.2 φ l B w g vs m hB b).mono λD w' ⟨v,r,h',g',t,⟨L,x,y,_,o,n1⟩,_,j,k⟩=>?_
 subst y o
 rw[qR l] at j k
 have a:(fill φ h).length=h.length:=qm
 obtain ⟨us,rfl,C,E,n,a1,p,A,s,a2,i⟩:=k
 have i:A=[]:=i
 subst i s
 refine ⟨_,_,h,g',t,⟨rfl,rfl⟩,.refl,j.drop rfl (by have:=m.ids;exact this),us,rfl,?_⟩
 rw[n]
 exact ⟨C,_,rfl,AR.less (xx w' g' (fill φ h) L) _ _ (by rw[qm];exact d) a1,p,[],rfl,Qi j.ok q a2 (n1 _ a) (λid hid=>by rw[a];exact n1.root id hid) (by rw[a];exact z),rfl⟩
theorem Y9a (h:List Ob) (s:Setup) (f:SFit s) (b:Bk) (i:BkI s b) (x:AV) (l:List Cm) (d:SlOf h x 16 (l.map Km)) (c:l.length<1048576) (a:s.rates.length<4096):
  ACalls Tryz.prog 33 [BV s b,x] h λr h'=>r= .tup [BV s (xI s b l).1,.sl 4 ((xI s b l).2.map jE)]/\h'=h:=
 Yb (by decide) W9a (Qya _) (Yaa h s f b i x l d c a)
def WeakL (l l':List AV):Prop:=∀(c:Ctx) (vs:List Value),ARs c l vs->ARs c l' vs
theorem WeakL.refl (l:List AV):WeakL l l:=λ_ _ h=>h
theorem WeakL.cons {a b:AV} {l l':List AV} (d:WeakV a b) (f:WeakL l l'):WeakL (a::l) (b::l'):=λc vs ⟨u,r,e,k1,k2⟩=>⟨u,r,e,d c u k1,f c r k2⟩
theorem WeakL.app {l l':List AV}:∀(k:List AV),WeakL l l'->WeakL (k++l) (k++l')
 | [],h=>h
 | _::k,h=> .cons (.refl _) (WeakL.app k h)
theorem WeakV.ag {l l':List AV} (h:WeakL l l'):WeakV (.ag l) (.ag l'):=λc v ⟨vs,e,k⟩=>⟨vs,e,h c _ k⟩
def Xqa:AV:= .ag (xX zS zA xb xb)
theorem XZa (h:List Ob) (s:Setup) (a:SA) (k:SIn h s a) (f:SFit s):
  ACalls Tryz.prog 27 [z6 s a] h λr h'=>r= .tup [if zw s then BV s zUa else Xqa,i64 (if zw s then 0 else 70)]/\h'=h:=
 yr (Y4a h s a k f) λr h' ⟨b,c⟩=>by
  subst b
  refine ⟨_,⟨rfl,c⟩,?_⟩
  unfold wPa
  cases zw s
  ·exact .refl _
  ·refine .two (.ag ?_) (.refl _)
   exact WeakL.app ((xX s (frA s) nl nl).take 23) (.cons (.nil 11) (.cons (.nil 1) (.refl [])))
end Go.Proofs.YtfmldcilgbbimaaGreat.Ax
namespace Go.Proofs.YtfmldcilgbbimaaGreat.Ax
open Go Go.Proofs
set_option maxRecDepth 100000
theorem w7a {l:List Int} {w:Int} {n:Nat} (h:n<l.length):qB (l.take (n+1)) w=(qB (l.take n) w || (l[n]==w)):=by
 rw[show l.take (n+1)=l.take n++[l[n]] from (List.take_append_getElem h).symm]
 unfold qB
 rw[List.any_append,List.any_cons,List.any_nil,Bool.or_false]
 congr 1
 exact Bool.eq_iff_iff.2 (by rw[beq_iff_eq,beq_iff_eq];exact eq_comm)
theorem Qza {l:List Int} {w:Int} {n:Nat} (h:n<l.length) (e:l[n]=w):qB l w=true:=yY.2 (e▸List.getElem_mem h)
theorem Yba (h:List Ob) (s:Setup) (b:Bk) (w:Int) (t:b.shut.length<1048576):
  ACalls Tryz.prog 31 [BV s b,i64 w] h λr h'=>r=bl (qB b.shut w)/\h'=h:=by
 have j:=(vE (h:=h) s).ones
 refine zf Tryz.f31 [.tmp 4] 20 rfl rfl rfl rfl rfl rfl (by decide) (⟨_,_,⟨rfl,rfl⟩,.refl⟩) λB=>?_
 simp only[go_sem,j]
 obtain ⟨H,f⟩:∃H,H=h++[Ob.box 64 (xX s (frA s) (BX b) (BC b))]:=⟨_,rfl⟩
 have o:H[h.length]? =some (.box 64 (xX s (frA s) (BX b) (BC b))):=by rw[f,zo rfl];rfl
 rw[<-f]
 refine zj (by decide) (λm T h'=>∃n:Nat,n<=b.shut.length/\h'=H/\qB (b.shut.take n) w=false/\T 1=i64 w/\T 2= .ptr h.length 0/\T 5=i64 n/\m=b.shut.length - n) b.shut.length
  ⟨0,by omega,rfl,rfl,by simp only[go_sem],by simp only[go_sem],by (simp only[go_sem]<;>rfl),rfl⟩ ?_
 rintro m T h' ⟨n,u,rfl,i,t1,t2,t5,rfl⟩
 simp only[go_sem,t1,t2,t5,o,j,List.length_map]
 refine ways (λe=>?_) (λe=>?_)
 ·have a:=dlt e
  have l:(n:Int)<b.shut.length:=by omega
  have d:(b.shut.map zz)[n]? =some (zz b.shut[n]):=WR (List.getElem?_eq_getElem a)
  have g:=w7a (w:=w) a
  simp only[go_sem,t1,t2,t5,o,j,d,l,zz,List.length_map,Int.toNat_natCast,Int.natCast_nonneg]
  refine ways (λc=>?_) (λc=>?_)
  ·have c:b.shut[n]=w:=by simpa using c
   have q:=Qza a c
   rw[q]
   simp only[go_sem]
   rw[f]
   (first | refine zd ?_ | refine ze ?_ (by rfl))<;>(simp only[go_sem]<;>try rfl)
  ·have c:(b.shut[n]==w)=false:=by simpa using c
   simp only[go_sem,t5]
   exact ⟨b.shut.length - (n+1),by omega,n+1,by omega,by rw[g,i,c];rfl,t1,t2,zx (by omega) rfl,rfl⟩
 ·have p:=qU e
  have k:n=b.shut.length:=by omega
  subst k
  rw[List.take_length] at i
  rw[i]
  simp only[go_sem]
  rw[f]
  (first | refine zd ?_ | refine ze ?_ (by rfl))<;>(simp only[go_sem]<;>try rfl)
theorem zab (h:List Ob) (s:Setup) (a:SA) (k:SIn h s a) (x:AV) (l:List Cm) (f:SlOf h x 16 (l.map Km)):ACalls Tryz.prog 28 [z6 s a,x] h λr h'=>r=bl (Wh s && decide (l.length<=40))/\h'=h:=by
 refine zf Tryz.f28 [.tmp 4] 12 rfl rfl rfl rfl rfl rfl (by decide) (⟨_,_,⟨rfl,rfl⟩,.refl⟩) λB=>?_
 simp only[go_sem,k.w.one,k.e.one,k.c.one,k.g.one,k.r.one,k.t.one]
 refine zc (c25 _ s a (k.app _)) ?_
 rintro _ m ⟨rfl,j⟩
 subst j
 have i:∀M,zq (h++M) x=_:=λM=>(f.app M).rows
 have d:decide ((l.length:Int)<=40)=decide (l.length<=40):=decide_eq_decide.2 (by omega)
 cases b:Wh s with
 | false=>
   simp only[go_sem,b,zJ]
   (first | refine zd ?_ | refine ze ?_ (by rfl))<;>(simp only[go_sem,b,Bool.false_and]<;>try rfl)
 | true=>
   simp only[go_sem,b,zJ,i,List.length_map,d]
   (first | refine zd ?_ | refine ze ?_ (by rfl))<;>(simp only[go_sem,b,Bool.true_and]<;>try rfl)
theorem Yca {s:Setup} (h:Wh s=true):SFew s:=by
 simp only[Wh,decide_eq_true_eq] at h
 obtain ⟨c,a,f,b,e,d⟩:=h
 exact ⟨by omega,by omega,by omega,by omega,by omega,by omega⟩
theorem Vwa {s:Setup} (h:Wh s=true):s.rates.length<4096:=by
 simp only[Wh,decide_eq_true_eq] at h
 omega
set_option maxRecDepth 100000
def s2:Setup:=⟨1,[],(1,1),[((1,1),(1,1))],[(1,1)],[(1,1)],0,1,36000,0,86400,0,28800,43200,144000,0,0,[1500],0,0,0,[]⟩
def ev0:Ev:=⟨0,0,0,0,0,0,0,0,0,0,0⟩
def Xra:Ev:=⟨1,0,0,1,0,0,0,0,0,0,0⟩
def X0a:Ev:=⟨2,0,3600,2,0,0,0,0,0,0,0⟩
def fx0:Fx:=⟨0,ev0⟩
def cm0 (k:Int):Cm:=⟨k,fx0,0,0,0⟩
def l2:List Cm:=[⟨1,⟨0,Xra⟩,0,0,0⟩,⟨2,⟨1,X0a⟩,0,0,0⟩,⟨1,⟨0,Xra⟩,0,0,0⟩,cm0 5,⟨2,⟨2,Xra⟩,0,0,0⟩,cm0 3,cm0 4,cm0 7,cm0 5,cm0 9,cm0 6,cm0 7,cm0 8]
def evs2:List Ev:=[Xra,X0a]
def kBa:RowV × List Flg:=zW s2 evs2 0 0
def byt2:List Int:=(kw [kBa]).1
def seg2:List Seg:=(zM s2 evs2 0).1
def an2:List An:=[ja 0,ja 0,ja 130,ja 0,ja 211,⟨0,[kBa],[],[]⟩,⟨0,[],seg2,[]⟩,⟨0,[kBa],[],byt2⟩,ja 212,ja 240,ja 0,ja 212,ja 0]
theorem vG:xI s2 zUa l2=(⟨evs2,[]⟩,an2):=by kernel_rfl
theorem Voa:kBa.1.total=1500:=by kernel_rfl
theorem QAa:decide (0<byt2.length)=true:=by kernel_rfl
theorem Vpa:seg2.map (·.to_)=[3600]:=by kernel_rfl
theorem ok2:zw s2=true:=by kernel_rfl
set_option maxRecDepth 100000
theorem Yda:SFit s2:=⟨by simp[Fit,s2],by simp[qj,Fit,s2],by simp[qj,Fit,s2],by simp[qj,Fit,s2],by simp[qj,Fit,s2],by simp[qj,Fit,s2],by simp[s2],by simp[s2],by simp[s2],by simp[s2],by simp[s2],by simp[s2]⟩
def a2 (n:Nat):SA:=⟨.v (.slice none 0 0),.tl (n+2) 0,.tl (n+3) 0,.tl (n+4) 0,.tl (n+5) 0,.v (.slice none 0 0)⟩
def H2 (n:Nat):List Ob:=[.box 30 (zr s2 (a2 n)),.box 24 (qz (1,1)),.row 166 4 (s2.elements.map ZN) 0,.row 24 2 (s2.classes.map qz) 0,.row 24 2 (s2.gears.map qz) 0,.row 3 1 (s2.rates.map zz) 0]
theorem pl2 (h:List Ob):ACalls Tryz.prog 70 [] h λr h'=>r=z6 s2 (a2 h.length)/\h'=h++H2 h.length:=by
 refine zf Tryz.f70 [.cell 0 30] 14 rfl rfl rfl rfl rfl rfl (by decide) (⟨_,_,⟨rfl,rfl⟩,zR⟩) λB=>?_
 simp only[go_sem]
 exact ⟨z6 s2 (a2 h.length),by (simp only[go_sem]<;>rfl),.inl ⟨rfl,rfl⟩⟩
theorem zbb (h:List Ob):SIn (h++H2 h.length) s2 (a2 h.length):=
 ⟨Qs,X6 (by rw[zm (k:=2) rfl];rfl),X6 (by rw[zm (k:=3) rfl];rfl),X6 (by rw[zm (k:=4) rfl];rfl),X6 (by rw[zm (k:=5) rfl];rfl),Qs⟩
theorem zcb (h:List Ob):SIn h zS zA:=⟨Qs,Qs,Qs,Qs,Qs,Qs⟩
theorem zdb:SFit zS:=⟨by simp[Fit,zS],by simp[qj,Fit,zS],by simp[qj,Fit,zS],by simp[qj,Fit,zS],by simp[qj,Fit,zS],by simp[qj,Fit,zS],by simp[zS],by simp[zS],by simp[zS],by simp[zS],by simp[zS],by simp[zS]⟩
theorem okz:zw zS=false:=by kernel_rfl
theorem Yea:an2.map jE=[jE (ja 0),jE (ja 0),jE (ja 130),jE (ja 0),jE (ja 211),[i64 0,.sl 27 [xN kBa],.sl 5 [],.sl 1 []],[i64 0,.sl 27 [],.sl 5 (seg2.map jo),.sl 1 []],[i64 0,.sl 27 [xN kBa],.sl 5 [],.sl 1 (byt2.map je)],jE (ja 212),jE (ja 240),jE (ja 0),jE (ja 212),jE (ja 0)]:=rfl
theorem Xsa:∀ {l:List Seg},l.map (·.to_)=[3600]->∃g:Seg,l=[g]/\g.to_=3600
 | [],h=>by simp at h
 | [g],h=>⟨g,rfl,by simpa using h⟩
 | a::b::l,h=>by simp at h
theorem QBa:∃g:Seg,seg2=[g]/\g.to_=3600:=by
 have h:=Vpa
 generalize seg2=l at h⊢
 exact Xsa h
theorem Xta {l:List Int} (h:decide (0<l.length)=true):decide (((l.map je).length:Int)>0)=true:=by
 have:=of_decide_eq_true h
 rw[List.length_map]
 exact decide_eq_true (by omega)
theorem w8a:∃(R:RowV × List Flg) (g:Seg) (a:List Int),an2.map jE=[jE (ja 0),jE (ja 0),jE (ja 130),jE (ja 0),jE (ja 211),[i64 0,.sl 27 [xN R],.sl 5 [],.sl 1 []],[i64 0,.sl 27 [],.sl 5 [jo g],.sl 1 []],[i64 0,.sl 27 [xN R],.sl 5 [],.sl 1 (a.map je)],jE (ja 212),jE (ja 240),jE (ja 0),jE (ja 212),jE (ja 0)]/\R.1.total=1500/\g.to_=3600/\decide (((a.map je).length:Int)>0)=true:=by
 obtain ⟨g,b,c⟩:=QBa
 refine ⟨kBa,g,byt2,?_,Voa,c,Xta QAa⟩
 rw[Yea,b]
 rfl
set_option maxHeartbeats 4000000 in
theorem zgb:ji Tryz.prog 26 [] (bl true):=λh=>by
 refine zf Tryz.f26 [.tmp 0] 198 rfl rfl rfl rfl rfl rfl (by decide) (⟨_,_,⟨rfl,rfl⟩,.refl⟩) λB=>?_
 simp only[go_sem]
 refine zc (pl2 _) ?_
 rintro _ l ⟨rfl,j⟩
 have k:=zbb h
 rw[<-j] at k
 have i:Pre h l:=⟨_,j,λo b=>by
  simp only[H2,List.mem_cons,List.not_mem_nil,or_false] at b
  rcases b with rfl | rfl | rfl | rfl | rfl | rfl<;>rfl⟩
 have p:∀M,SIn (l++M) s2 (a2 h.length):=λM=>k.app M
 simp only[go_sem]
 refine zc (XZa _ s2 (a2 h.length) k Yda) ?_
 rintro _ e ⟨rfl,a⟩
 rw[a,if_pos ok2,if_pos ok2]
 clear a e
 have b:=(vE (h:=h) s2).ones
 simp only[go_sem,b]
 refine zc (Y9a _ s2 Yda zUa (wSa s2) _ l2 (X6 (ty:=77) (st:=0) (by rw[zm (k:=3) rfl];rfl)) (by decide) (by decide)) ?_
 rintro _ e ⟨rfl,a⟩
 rw[a,vG]
 clear a e
 simp only[go_sem,b]
 refine zc (XZa _ zS zA (zcb _) zdb) ?_
 rintro _ e ⟨rfl,a⟩
 obtain ⟨R,q,m,c,d,g,f⟩:=w8a
 rw[a,okz,c]
 clear a e
 simp only[go_sem,b,Xqa,zA,xb,jE,ja,xN,Qu,List.map_nil,List.map_cons,List.cons_append,List.nil_append,d]
 simp only[bne_self_eq_false,beq_self_eq_true,zJ,Bool.not_false,Bool.not_true,XG,Vr]
 simp only[go_sem,b,Xqa,zA,xb,jE,ja,xN,Qu,List.map_nil,List.map_cons,List.cons_append,List.nil_append,d,g,f,bne_self_eq_false,beq_self_eq_true,zJ,Bool.not_false,Bool.not_true]
 rw[show ((((evs2.map evC).length:Nat):Int)==2)=true from rfl]
 simp only[XG]
 simp only[go_sem,b,Xqa,zA,xb,List.map_nil,List.length_nil,bne_self_eq_false,beq_self_eq_true,zJ,Bool.not_false,Bool.not_true]
 obtain ⟨L,n,_⟩:=i
 rw[n,List.append_assoc]
 (first | refine zd ?_ | refine ze ?_ (by rfl))<;>(simp only[go_sem]<;>try rfl)
end Go.Proofs.YtfmldcilgbbimaaGreat.Ax
namespace Go.Proofs.YtfmldcilgbbimaaGreat.Ax
open Go Go.RowKit Go.ChangeShapes Go.WideShapes
def X1a (r:List Int):Cm:=⟨jN r 0,⟨jN r 1,⟨jN r 2,jN r 3,jN r 4,jN r 5,jN r 6,jN r 7,jN r 8,jN r 9,jN r 10,jN r 11,jN r 12⟩⟩,jN r 13,jN r 14,jN r 15⟩
theorem Vra:∀ {r:List Int},r.length=16->r.map i64=Km (X1a r)
 | [_,_,_,_,_,_,_,_,_,_,_,_,_,_,_,_],_=>rfl
def InCms (w:World) (v:Value):Prop:=∃(x:AV) (l:List Cm),AR (c0 w) x v/\SlOf [] x 16 (l.map Km)
def X2a (r:List Int):Fx:=⟨jN r 0,⟨jN r 1,jN r 2,jN r 3,jN r 4,jN r 5,jN r 6,jN r 7,jN r 8,jN r 9,jN r 10,jN r 11⟩⟩
def z3a (f:Fx):Value:= .agg #[.int .i64 f.op,.int .i64 f.ev.id,.int .i64 f.ev.worker,.int .i64 f.ev.at_,.int .i64 f.ev.kind,.int .i64 f.ev.from_,.int .i64 f.ev.to_,.int .i64 f.ev.element,.int .i64 f.ev.units,.int .i64 f.ev.class_,.int .i64 f.ev.gear,.int .i64 f.ev.code]
def InFx (v:Value):Prop:=∃f:Fx,v=z3a f
theorem jZa:∀ {l:List Value},(∀v∈l,∃z,v= .int .i64 z)->∃a:List Int,l=a.map (Value.int .i64)/\a.length=l.length
 | [],_=>⟨[],rfl,rfl⟩
 | v::l,h=>by
   obtain ⟨z,rfl⟩:=h v (by simp)
   obtain ⟨a,e,c⟩:=jZa (l:=l) λv b=>h v (by simp[b])
   exact ⟨z::a,by rw[e];rfl,by simp[c]⟩
theorem Xxa:∀ {a:List Int},a.length=12->Value.agg ⟨a.map (Value.int .i64)⟩=z3a (X2a a)
 | [_,_,_,_,_,_,_,_,_,_,_,_],_=>rfl
section
variable {H:Type} {enc:TypeId × Value->H} {w:World} {base:Nat} {held:Bool}
theorem cms_in {b:Nat} {v:Value} {x:DataW H × List MemPlace} (h:DataW.trod enc Tryz.prog w base (λ_=>true) held b 62 [v]=some x):InCms w v:=by
 obtain ⟨a,rows,i,c,d⟩:=QCa Tryz.underlying62 (n:=5) (by kernel_rfl) h
 have e:Tryz.prog.cellsOf 77=16:=by kernel_rfl
 rw[e] at c d
 rw[ZC (f:=X1a) (g:=Km) Vra λr j=>(d r j).1] at c
 exact ⟨a,_,i,c⟩
set_option maxRecDepth 100000 in
theorem fx_in {r:Reach} {b0:Nat} {v:Value} {d:DataW H} {p:List MemPlace} (c:Value.okWide Tryz.prog w r b0 75 v) (h:DataW.Trod enc Tryz.prog w base (λ_=>true) held 75 v d p):InFx v:=by
 simp only[Value.okWide,Tryz.underlying75] at c
 obtain ⟨cs,rfl,_,_⟩:=c
 obtain ⟨b,a⟩:=h
 have a:DataW.trod enc Tryz.prog w base (λ_=>true) held b 75 cs.toList=some (d,p):=by simpa [Value.cells] using a
 obtain ⟨xs,n,_,_,g,j,m⟩:=DataW.trod_struct Tryz.underlying75 a
 have f:Tryz.prog.cellsOf 75=12:=by kernel_rfl
 rw[f] at g
 have i:=Q3 (n:=4) (by kernel_rfl) a
 obtain ⟨L⟩:=cs
 obtain ⟨k,e,o⟩:=jZa (l:=L) λv c=>by
  obtain ⟨z,h0,_⟩:=i v c
  exact ⟨z,h0⟩
 replace g:L.length=12:=g
 refine ⟨X2a k,?_⟩
 rw[<-Xxa (by omega),e]
end
theorem InFx.ar {w:World} {f:Fx}:AR (c0 w) (.ag (fxC f)) (z3a f):=⟨_,rfl,_,_,rfl,rfl,_,_,rfl,rfl,_,_,rfl,rfl,_,_,rfl,rfl,_,_,rfl,rfl,_,_,rfl,rfl,_,_,rfl,rfl,_,_,rfl,rfl,_,_,rfl,rfl,_,_,rfl,rfl,_,_,rfl,rfl,_,_,rfl,rfl,rfl⟩
end Go.Proofs.YtfmldcilgbbimaaGreat.Ax
namespace Go.Proofs.YtfmldcilgbbimaaGreat.Ax
open Go Go.Proofs
set_option maxRecDepth 100000
theorem zib:((70:Int) != 0)=true:=rfl
theorem lit_u8 {n:Int} (h:(Lit.int .u8 n).wf=true):0<=n/\n<256:=by
 have h:(decide (IntKind.min .u8<=n) && decide (n<=IntKind.max .u8))=true:=h
 rw[Bool.and_eq_true,decide_eq_true_eq,decide_eq_true_eq] at h
 have a:IntKind.min .u8=0:=by decide
 have b:IntKind.max .u8=255:=by decide
 omega
abbrev bkO (s:Setup) (b:Bk):Ob:= .box 64 (xX s (frA s) (BX b) (BC b))
structure HasB (h H:List Ob) (s:Setup) (a:SA) (b:Bk):Prop where
 pre:Pre h H
 st:H[h.length]? =some (.box 30 (zr s a))
 bk:H[h.length+1]? =some (bkO s b)
theorem HasB.app {h H M:List Ob} {s:Setup} {a:SA} {b:Bk} (k:HasB h H s a b) (c:NoRes M):HasB h (H++M) s a b:=⟨k.pre.app c,zb k.st,zb k.bk⟩
theorem HasB.put {h H:List Ob} {s:Setup} {a:SA} {b:Bk} (k:HasB h H s a b) (c:Bk):HasB h (H.set (h.length+1) (bkO s c)) s a c:=
 ⟨k.pre.set (by omega) rfl,by rw[List.getElem?_set_ne (by omega)];exact k.st,zh k.bk⟩
end Go.Proofs.YtfmldcilgbbimaaGreat.Ax
namespace Go.Proofs.YtfmldcilgbbimaaGreat.Ax
open Go Go.Proofs Go.RowKit
set_option maxRecDepth 100000
def QDa (w:Way):List Int:=[w.1,w.2.1,w.2.2]
def QEa (e:Elt):List Int:=[e.1.1,e.1.2,e.2.1,e.2.2]
def JO (p:zF):List Int:=[p.1,p.2]
def KP (s:Setup):List Int:=
 [s.places,s.ways.length]++s.ways.flatMap QDa++[s.pace.1,s.pace.2,s.elements.length]++s.elements.flatMap QEa++[(s.classes.length:Int)]++s.classes.flatMap JO++[(s.gears.length:Int)]++s.gears.flatMap JO
  ++[s.allow,s.unit,s.cap,s.paidBreak,s.autoAfter,s.autoBreak,s.dayReg,s.dayOver,s.weekReg,s.nightFrom,s.nightTo]++[(s.rates.length:Int)]++s.rates++[s.diff,s.least,s.fault,s.tiers.length]++s.tiers.flatMap JO
theorem Xx {α:Type} (f:α->List Int) {l:List α} {n:Nat} {A R:List Int} (h:n<l.length) (a:R=A++(l.take n).flatMap f):A++(l.take (n+1)).flatMap f=R++f l[n]:=by
 rw[show l.take (n+1)=l.take n++[l[n]] from (List.take_append_getElem h).symm,List.flatMap_append,a]
 simp
structure NumI (h H:List Ob) (s:Setup) (l:List Int) (st b:Nat):Prop where
 pre:Pre h H
 box:H[h.length]? =some (.box 30 (zr s (frA s)))
 row:H[h.length+1]? =some (.row 3 1 (l.map zz) st)
 len:l.length=b
theorem NumI.add0 {h H:List Ob} {s:Setup} {l l' new:List Int} {st b a:Nat} (k:NumI h H s l st b) (c:l'=l++new) (d:a=b+new.length) {R:List (List AV)} (e:R=l.map zz++new.map zz):NumI h (H.set (h.length+1) (.row 3 1 R (st+1))) s l' (st+1) a:=by
 subst c;subst d;subst e
 exact ⟨k.pre.set (by omega) rfl,ve (h0:=h) k.box k.row,by rw[zh k.row,List.map_append],by rw[List.length_append,k.len]⟩
theorem NumI.app {h H M:List Ob} {s:Setup} {l:List Int} {st b:Nat} (k:NumI h H s l st b) (a:NoRes M):NumI h (H++M) s l st b:=
 ⟨k.pre.app a,zb k.box,zb k.row,k.len⟩
theorem kG {α:Type} (f:α->List AV) {l:List α} {n:Nat} (h:n<l.length):(l.map f)[n]? =some (f l[n]):=by rw[List.getElem?_map,List.getElem?_eq_getElem h];rfl
set_option maxHeartbeats 4000000 in
theorem Yfa (h:List Ob) (s:Setup) (f:SFew s):
  ACalls Tryz.prog 154 [z6 s (frA s)] h λr h'=>∃L,h'=h++L/\NoRes L/\New h 1 r ((KP s).map zz) L:=by
 have hex:∃r h',(∃L,h'=h++L/\NoRes L/\New h 1 r ((KP s).map zz) L)/\ResK h h':=
  ⟨.sl 1 _,_,⟨[],rfl,qh,λ_ _=>⟨rfl,λ_=>rfl⟩⟩,zR⟩
 have ho:=(vE (h:=h) s).ones
 have Z:∀H,zq H (frA s).w=some (s.ways.map ZM):=λ_=>rfl
 have U:∀H,zq H (frA s).e=some (s.elements.map ZN):=λ_=>rfl
 have ε:∀H,zq H (frA s).c=some (s.classes.map qz):=λ_=>rfl
 have Q:∀H,zq H (frA s).g=some (s.gears.map qz):=λ_=>rfl
 have ρ:∀H,zq H (frA s).r=some (s.rates.map zz):=λ_=>rfl
 have α:∀H,zq H (frA s).t=some (s.tiers.map qz):=λ_=>rfl
 have κ:∀H,eOf H (frA s).w=some 3:=λ_=>rfl
 have ν:∀H,eOf H (frA s).e=some 4:=λ_=>rfl
 have σ:∀H,eOf H (frA s).c=some 2:=λ_=>rfl
 have ο:∀H,eOf H (frA s).g=some 2:=λ_=>rfl
 have υ:∀H,eOf H (frA s).t=some 2:=λ_=>rfl
 obtain ⟨f1,f2,f3,f4,f5,f6⟩:=f
 refine zf Tryz.f154 [.tmp 2] 208 rfl rfl rfl rfl rfl rfl (by decide) (hex) λB=>?_
 simp only[go_sem,ho,Z,List.length_map]
 refine zj (by decide) (λm T H=>∃(n st:Nat) (l:List Int),n<=s.ways.length/\l=[s.places,(s.ways.length:Int)]++(s.ways.take n).flatMap QDa/\NumI h H s l st (2+3*n)/\T 1= .ptr h.length 0/\T 3= .tl (h.length+1) st/\T 4=i64 n/\m=s.ways.length - n) s.ways.length
  ⟨0,0,_,by omega,(List.append_nil _).symm,⟨⟨_,rfl,zg rfl (zi rfl)⟩,by rw[zo rfl];rfl,by rw[zm (k:=1) rfl];rfl,rfl⟩,by simp only[go_sem],by simp only[go_sem],by (simp only[go_sem]<;>rfl),rfl⟩ ?_
 rintro m T H ⟨n,st,l0,P,X,k,t1,t3,x,rfl⟩
 have j:=k.box;have y:=k.row;have i:=k.len
 have d:∀M,(H++M)[h.length]? =_:=λM=>zb j
 have b:∀M,(H++M)[h.length+1]? =_:=λM=>zb y
 simp only[go_sem,t1,x,j,Z,List.length_map]
 refine ways (λe=>?_) (λe=>?_)
 ·have p:=dlt e
  have v:(n:Int)<s.ways.length:=by omega
  have q:=kG ZM p
  have a:(l0.length+3)*9<=140737488355328:=by omega
  have J:=Xx QDa p X
  simp only[go_sem]
  refine zn rfl [.res] 1 [(0,0,[]),(1,0,[]),(3,0,[]),(7,0,[]),(9,0,[]),(13,0,[]),(15,0,[]),(2,0,[]),(4,0,[]),(5,0,[]),(6,0,[]),(8,0,[]),(10,0,[]),(11,0,[]),(12,0,[]),(14,0,[]),(16,0,[]),(17,0,[]),(18,0,[]),(19,0,[]),(20,0,[]),(21,0,[])] rfl (by decide) (by decide) ?_
  simp only[go_sem,t1,t3,x,j,d,b,a,Z,κ,q,ZM,v,List.length_map,Int.toNat_natCast,Int.natCast_nonneg]
  exact ⟨s.ways.length - (n+1),by omega,n+1,st+1,_,by omega,J.symm.trans (by simp),(k.app (zi rfl)).add0 (new:=QDa s.ways[n]) rfl (by show _=_+3;omega) rfl,rfl,zx (by omega) rfl,rfl⟩
 ·have z:=qU e
  have u:n=s.ways.length:=by omega
  subst u
  rw[List.take_length] at X
  have a:(l0.length+3)*9<=140737488355328:=by omega
  simp only[go_sem,t1,t3,j,d,b,a,U,List.length_map]
  refine zj (by decide) (λm T H=>∃(n st:Nat) (l:List Int),n<=s.elements.length/\l=(l0++[s.pace.1,s.pace.2,(s.elements.length:Int)])++(s.elements.take n).flatMap QEa/\NumI h H s l st (5+3*s.ways.length+4*n)/\T 1= .ptr h.length 0/\T 3= .tl (h.length+1) st/\T 5=i64 n/\m=s.elements.length - n) s.elements.length
   ⟨0,st+1,_,by omega,(List.append_nil _).symm,(k.app (zi rfl)).add0 (new:=[s.pace.1,s.pace.2,(s.elements.length:Int)]) rfl (by show _=_+3;omega) rfl,by simp only[go_sem,t1],by simp only[go_sem],by (simp only[go_sem]<;>rfl),rfl⟩ ?_
  clear t1 t3 x j y d b i P z e a k
  rintro m T H ⟨n,st,l1,P,V,k,t1,t3,x,rfl⟩
  have j:=k.box;have y:=k.row;have i:=k.len
  have d:∀M,(H++M)[h.length]? =_:=λM=>zb j
  have b:∀M,(H++M)[h.length+1]? =_:=λM=>zb y
  simp only[go_sem,t1,x,j,U,List.length_map]
  refine ways (λe=>?_) (λe=>?_)
  ·have p:=dlt e
   have v:(n:Int)<s.elements.length:=by omega
   have q:=kG ZN p
   have a:(l1.length+4)*9<=140737488355328:=by omega
   have J:=Xx QEa p V
   simp only[go_sem]
   simp only[go_sem,t1,t3,x,j,d,b,a,U,ν,q,ZN,v,List.length_map,Int.toNat_natCast,Int.natCast_nonneg]
   exact ⟨s.elements.length - (n+1),by omega,n+1,st+1,_,by omega,J.symm.trans (by simp),(k.app (zg rfl (zi rfl))).add0 (new:=QEa s.elements[n]) rfl (by show _=_+4;omega) rfl,rfl,zx (by omega) rfl,rfl⟩
  ·have z:=qU e
   have u:n=s.elements.length:=by omega
   subst u
   rw[List.take_length] at V
   have a:(l1.length+1)*9<=140737488355328:=by omega
   simp only[go_sem,t1,t3,j,d,b,a,ε,List.length_map]
   refine zj (by decide) (λm T H=>∃(n st:Nat) (l:List Int),n<=s.classes.length/\l=(l1++[(s.classes.length:Int)])++(s.classes.take n).flatMap JO/\NumI h H s l st (6+3*s.ways.length+4*s.elements.length+2*n)/\T 1= .ptr h.length 0/\T 3= .tl (h.length+1) st/\T 7=i64 n/\m=s.classes.length - n) s.classes.length
    ⟨0,st+1,_,by omega,(List.append_nil _).symm,(k.app (zi rfl)).add0 (new:=[(s.classes.length:Int)]) rfl (by show _=_+1;omega) rfl,by simp only[go_sem,t1],by simp only[go_sem],by (simp only[go_sem]<;>rfl),rfl⟩ ?_
   clear t1 t3 x j y d b i P z e a k
   rintro m T H ⟨n,st,l2,P,δ,k,t1,t3,x,rfl⟩
   have j:=k.box;have y:=k.row;have i:=k.len
   have d:∀M,(H++M)[h.length]? =_:=λM=>zb j
   have b:∀M,(H++M)[h.length+1]? =_:=λM=>zb y
   simp only[go_sem,t1,x,j,ε,List.length_map]
   refine ways (λe=>?_) (λe=>?_)
   ·have p:=dlt e
    have v:(n:Int)<s.classes.length:=by omega
    have q:=kG qz p
    have a:(l2.length+2)*9<=140737488355328:=by omega
    have J:=Xx JO p δ
    simp only[go_sem]
    refine zn rfl [.res] 1 [(0,0,[]),(1,0,[]),(3,0,[]),(7,0,[]),(9,0,[]),(2,0,[]),(4,0,[]),(5,0,[]),(6,0,[]),(8,0,[]),(10,0,[]),(11,0,[]),(12,0,[]),(13,0,[]),(14,0,[]),(15,0,[])] rfl (by decide) (by decide) ?_
    simp only[go_sem,t1,t3,x,j,d,b,a,ε,σ,q,qz,v,List.length_map,Int.toNat_natCast,Int.natCast_nonneg]
    exact ⟨s.classes.length - (n+1),by omega,n+1,st+1,_,by omega,J.symm.trans (by simp),(k.app (zi rfl)).add0 (new:=JO s.classes[n]) rfl (by show _=_+2;omega) rfl,rfl,zx (by omega) rfl,rfl⟩
   ·have z:=qU e
    have u:n=s.classes.length:=by omega
    subst u
    rw[List.take_length] at δ
    have a:(l2.length+1)*9<=140737488355328:=by omega
    simp only[go_sem,t1,t3,j,d,b,a,Q,List.length_map]
    refine zj (by decide) (λm T H=>∃(n st:Nat) (l:List Int),n<=s.gears.length/\l=(l2++[(s.gears.length:Int)])++(s.gears.take n).flatMap JO/\NumI h H s l st (7+3*s.ways.length+4*s.elements.length+2*s.classes.length+2*n)/\T 1= .ptr h.length 0/\T 3= .tl (h.length+1) st/\T 8=i64 n/\m=s.gears.length - n) s.gears.length
     ⟨0,st+1,_,by omega,(List.append_nil _).symm,(k.app (zi rfl)).add0 (new:=[(s.gears.length:Int)]) rfl (by show _=_+1;omega) rfl,by simp only[go_sem,t1],by simp only[go_sem],by (simp only[go_sem]<;>rfl),rfl⟩ ?_
    clear t1 t3 x j y d b i P z e a k
    rintro m T H ⟨n,st,l3,P,W,k,t1,t3,x,rfl⟩
    have j:=k.box;have y:=k.row;have i:=k.len
    have d:∀M,(H++M)[h.length]? =_:=λM=>zb j
    have b:∀M,(H++M)[h.length+1]? =_:=λM=>zb y
    simp only[go_sem,t1,x,j,Q,List.length_map]
    refine ways (λe=>?_) (λe=>?_)
    ·have p:=dlt e
     have v:(n:Int)<s.gears.length:=by omega
     have q:=kG qz p
     have a:(l3.length+2)*9<=140737488355328:=by omega
     have J:=Xx JO p W
     simp only[go_sem]
     refine zn rfl [.res] 1 [(0,0,[]),(1,0,[]),(3,0,[]),(7,0,[]),(9,0,[]),(2,0,[]),(4,0,[]),(5,0,[]),(6,0,[]),(8,0,[]),(10,0,[]),(11,0,[]),(12,0,[]),(13,0,[]),(14,0,[]),(15,0,[])] rfl (by decide) (by decide) ?_
     simp only[go_sem,t1,t3,x,j,d,b,a,Q,ο,q,qz,v,List.length_map,Int.toNat_natCast,Int.natCast_nonneg]
     exact ⟨s.gears.length - (n+1),by omega,n+1,st+1,_,by omega,J.symm.trans (by simp),(k.app (zi rfl)).add0 (new:=JO s.gears[n]) rfl (by show _=_+2;omega) rfl,rfl,zx (by omega) rfl,rfl⟩
    ·have z:=qU e
     have u:n=s.gears.length:=by omega
     subst u
     rw[List.take_length] at W
     have a:(l3.length+11)*9<=140737488355328:=by omega
     simp only[go_sem,t1,t3,j,d,b,a,List.length_map]
     have k1:=(k.app (M:=[.row 3 1 ([s.allow,s.unit,s.cap,s.paidBreak,s.autoAfter,s.autoBreak,s.dayReg,s.dayOver,s.weekReg,s.nightFrom,s.nightTo].map zz) 0]) (zi rfl)).add0 (new:=[s.allow,s.unit,s.cap,s.paidBreak,s.autoAfter,s.autoBreak,s.dayReg,s.dayOver,s.weekReg,s.nightFrom,s.nightTo]) rfl rfl rfl
     clear j y d b i P z e a k x
     obtain ⟨A,γ⟩:∃A,A=(H++[Ob.row 3 1 ([s.allow,s.unit,s.cap,s.paidBreak,s.autoAfter,s.autoBreak,s.dayReg,s.dayOver,s.weekReg,s.nightFrom,s.nightTo].map zz) 0]).set (h.length+1) (.row 3 1 (l3.map zz++[s.allow,s.unit,s.cap,s.paidBreak,s.autoAfter,s.autoBreak,s.dayReg,s.dayOver,s.weekReg,s.nightFrom,s.nightTo].map zz) (st+1)):=⟨_,rfl⟩
     rw[<-γ] at k1
     simp only[List.map_cons,List.map_nil,zz] at γ
     rw[<-γ]
     obtain ⟨I,Y⟩:∃I,I=l3++[s.allow,s.unit,s.cap,s.paidBreak,s.autoAfter,s.autoBreak,s.dayReg,s.dayOver,s.weekReg,s.nightFrom,s.nightTo]:=⟨_,rfl⟩
     rw[<-Y] at k1
     have ξ:(I.map zz)=l3.map zz++[[i64 s.allow],[i64 s.unit],[i64 s.cap],[i64 s.paidBreak],[i64 s.autoAfter],[i64 s.autoBreak],[i64 s.dayReg],[i64 s.dayOver],[i64 s.weekReg],[i64 s.nightFrom],[i64 s.nightTo]]:=by rw[Y,List.map_append];rfl
     have j:=k1.box;have y:=k1.row;have i:=k1.len
     have d:∀M,(A++M)[h.length]? =_:=λM=>zb j
     have b:∀M,(A++M)[h.length+1]? =_:=λM=>zb y
     have ζ:∀M o,((A++M).set (h.length+1) o)[h.length]? =_:=λM o=>ve (h0:=h) (d M) (b M)
     have β:∀M o,((A++M).set (h.length+1) o)[h.length+1]? =some o:=λM o=>zh (b M)
     have η:I.length=_:=k1.len
     simp only[List.length_cons,List.length_nil] at η
     have a:(I.length+1)*9<=140737488355328:=by omega
     have C:(I.length+1+s.rates.length)*9<=140737488355328:=by omega
     have E:(I.length+(s.rates.length+1)+4)*9<=140737488355328:=by omega
     have N:=vna s.rates
     have F:∀M o o',(((A++M).set (h.length+1) o).set (h.length+1) o')[h.length]? =some (.box 30 (zr s (frA s))):=λM o o'=>by rw[List.getElem?_set_ne (by omega)];exact ζ M o
     have D:∀M o o',(((A++M).set (h.length+1) o).set (h.length+1) o')[h.length+1]? =some o':=λM o o'=>zh (β M o)
     have O:∀M o o' G,((((A++M).set (h.length+1) o).set (h.length+1) o')++G)[h.length]? =_:=λM o o' G=>zb (F M o o')
     have K:∀M o o' G,((((A++M).set (h.length+1) o).set (h.length+1) o')++G)[h.length+1]? =some o':=λM o o' G=>zb (D M o o')
     have θ:∀o1 o o' G,((((A++[o1]).set (h.length+1) o).set (h.length+1) o')++G)[A.length+1]? =G[0]? :=λo1 o o' G=>zo (by simp)
     refine zn rfl [.res] 1 [(0,0,[]),(1,0,[]),(6,0,[]),(2,0,[]),(3,0,[]),(7,0,[]),(4,0,[]),(5,0,[7]),(8,0,[]),(9,0,[])] rfl (by decide) (by decide) ?_
     simp only[go_sem,t1,t3,j,d,b,ζ,β,F,D,O,K,θ,a,C,E,N,ρ,α,List.length_map,List.length_append,List.length_cons]
     have k2:=(k1.app (M:=[.row 3 1 ([(s.rates.length:Int)].map zz) 0]) (zi rfl)).add0 (new:=[(s.rates.length:Int)]) rfl rfl rfl
     have k3:=k2.add0 (new:=s.rates) (R:=I.map zz++[i64 s.rates.length]::s.rates.map zz) rfl rfl (by rw[List.map_append,List.append_assoc];rfl)
     refine zj (by decide) (λm T H=>∃(n st:Nat) (l:List Int),n<=s.tiers.length/\l=(I++[(s.rates.length:Int)]++s.rates++[s.diff,s.least,s.fault,(s.tiers.length:Int)])++(s.tiers.take n).flatMap JO/\NumI h H s l st (23+3*s.ways.length+4*s.elements.length+2*s.classes.length+2*s.gears.length+s.rates.length+2*n)/\T 1= .ptr h.length 0/\T 3= .tl (h.length+1) st/\T 9=i64 n/\m=s.tiers.length - n) s.tiers.length
      ⟨0,st+1+1+1+1,_,by omega,(List.append_nil _).symm,(k3.app (zi rfl)).add0 (new:=[s.diff,s.least,s.fault,(s.tiers.length:Int)]) rfl (by simp only[List.length_cons,List.length_nil];omega) (by simp[zz]),by simp only[go_sem,t1],by simp only[go_sem],by (simp only[go_sem]<;>rfl),rfl⟩ ?_
     clear t1 t3 j y d b ζ β F D O K θ i a C E N k3 k2 k1 η ξ
     rintro m T H ⟨n,st,l4,P,S,k,t1,t3,x,rfl⟩
     have j:=k.box;have y:=k.row;have i:=k.len
     have d:∀M,(H++M)[h.length]? =_:=λM=>zb j
     have b:∀M,(H++M)[h.length+1]? =_:=λM=>zb y
     simp only[go_sem,t1,x,j,α,List.length_map]
     refine ways (λe=>?_) (λe=>?_)
     ·have p:=dlt e
      have v:(n:Int)<s.tiers.length:=by omega
      have q:=kG qz p
      have a:(l4.length+2)*9<=140737488355328:=by omega
      have J:=Xx JO p S
      simp only[go_sem]
      refine zn rfl [.res] 1 [(0,0,[]),(1,0,[]),(3,0,[]),(7,0,[]),(9,0,[]),(2,0,[]),(4,0,[]),(5,0,[]),(6,0,[]),(8,0,[]),(10,0,[]),(11,0,[]),(12,0,[]),(13,0,[]),(14,0,[]),(15,0,[])] rfl (by decide) (by decide) ?_
      simp only[go_sem,t1,t3,x,j,d,b,a,α,υ,q,qz,v,List.length_map,Int.toNat_natCast,Int.natCast_nonneg]
      exact ⟨s.tiers.length - (n+1),by omega,n+1,st+1,_,by omega,J.symm.trans (by simp),(k.app (zi rfl)).add0 (new:=JO s.tiers[n]) rfl (by show _=_+2;omega) rfl,rfl,zx (by omega) rfl,rfl⟩
     ·have z:=qU e
      have u:n=s.tiers.length:=by omega
      subst u
      rw[List.take_length] at S
      simp only[go_sem,t1,t3]
      have hr:KP s=l4:=by rw[S,Y,W,δ,V,X];simp[KP]
      rw[hr]
      obtain ⟨L,hL,hN⟩:=k.pre
      refine ⟨.tl (h.length+1) st,by simp only[go_sem],.inl ⟨L,hL,hN,?_⟩⟩
      rw[hL] at y
      exact OwnS.new (.inr ⟨h.length+1,st,by omega,rfl,y⟩) (Nat.le_refl _)
theorem w9a {s:Setup} (f:SFew s):(KP s).length<1099511627776*128:=by
 obtain ⟨k,m,o,j,f5,f6⟩:=f
 have len:∀ {α:Type} (g:α->List Int) (n:Nat) (_:∀x,(g x).length=n) (l:List α),(l.flatMap g).length=n*l.length:=λg n e l=>by
  induction l with
  | nil=>rfl
  | cons x l d=>rw[List.flatMap_cons,List.length_append,e,d,List.length_cons];rw[Nat.mul_succ];omega
 have c:=len QDa 3 (λ_=>rfl) s.ways
 have a:=len QEa 4 (λ_=>rfl) s.elements
 have i:=len JO 2 (λ_=>rfl) s.classes
 have b:=len JO 2 (λ_=>rfl) s.gears
 have h:=len JO 2 (λ_=>rfl) s.tiers
 simp only[KP,List.length_append,List.length_cons,List.length_nil,c,a,i,b,h]
 omega
set_option maxRecDepth 100000
theorem Yga (h:List Ob) (l:List Ev) (d:l.length<1099511627776):
  ACalls Tryz.prog 81 [.sl 11 (l.map evC),.sl 11 (l.map evC)] h λr h'=>r=bl true/\h'=h:=by
 refine zf Tryz.f81 [.tmp 4] 26 rfl rfl rfl rfl rfl rfl (by decide) (⟨_,_,⟨rfl,rfl⟩,.refl⟩) λB=>?_
 simp only[go_sem,List.length_map,bne_self_eq_false]
 refine zj (by decide) (λm T h'=>h'=h/\∃k:Nat,k<=l.length/\T 0= .sl 11 (l.map evC)/\T 1= .sl 11 (l.map evC)/\T 5=i64 k/\m=l.length - k) l.length
  ⟨rfl,0,by omega,by simp only[go_sem],by simp only[go_sem],by (simp only[go_sem]<;>rfl),rfl⟩ ?_
 rintro m T h' ⟨rfl,k,f,t0,t1,t5,rfl⟩
 simp only[go_sem,t5,t0,List.length_map]
 refine ways (λe=>?_) (λe=>?_)
 ·have b:=dlt e
  have a:=kG evC b
  have c:(k:Int)<l.length:=by omega
  simp only[go_sem]
  refine zn rfl [] 0 [(0,0,[]),(1,0,[]),(4,0,[]),(5,0,[]),(2,0,[]),(3,0,[]),(6,0,[]),(7,0,[]),(8,0,[])] rfl (by decide) (by decide) ?_
  simp only[go_sem,t5,t0,t1,a,c,evC,List.length_map,Int.toNat_natCast,Int.natCast_nonneg,beq_self_eq_true,Bool.and_self,Bool.not_true,zJ,bne_self_eq_false]
  exact ⟨l.length - (k+1),by omega,k+1,by omega,zx (by omega) rfl,rfl⟩
 ·simp only[go_sem]
  (first | refine zd ?_ | refine ze ?_ (by rfl))<;>(simp only[go_sem]<;>try rfl)
theorem Vsa (h:List Ob) (l:List Int) (d:l.length<1099511627776):
  ACalls Tryz.prog 82 [.sl 1 (l.map zz),.sl 1 (l.map zz)] h λr h'=>r=bl true/\h'=h:=by
 refine zf Tryz.f82 [.tmp 4] 26 rfl rfl rfl rfl rfl rfl (by decide) (⟨_,_,⟨rfl,rfl⟩,.refl⟩) λB=>?_
 simp only[go_sem,List.length_map,bne_self_eq_false]
 refine zj (by decide) (λm T h'=>h'=h/\∃k:Nat,k<=l.length/\T 0= .sl 1 (l.map zz)/\T 1= .sl 1 (l.map zz)/\T 5=i64 k/\m=l.length - k) l.length
  ⟨rfl,0,by omega,by simp only[go_sem],by simp only[go_sem],by (simp only[go_sem]<;>rfl),rfl⟩ ?_
 rintro m T h' ⟨rfl,k,f,t0,t1,t5,rfl⟩
 simp only[go_sem,t5,t0,List.length_map]
 refine ways (λe=>?_) (λe=>?_)
 ·have b:=dlt e
  have a:=kG zz b
  have c:(k:Int)<l.length:=by omega
  simp only[go_sem]
  refine zn rfl [] 0 [(0,0,[]),(1,0,[]),(4,0,[]),(5,0,[]),(2,0,[]),(3,0,[]),(6,0,[]),(7,0,[]),(8,0,[])] rfl (by decide) (by decide) ?_
  simp only[go_sem,t5,t0,t1,a,c,zz,List.length_map,Int.toNat_natCast,Int.natCast_nonneg,beq_self_eq_true,Bool.and_self,Bool.not_true,zJ,bne_self_eq_false]
  exact ⟨l.length - (k+1),by omega,k+1,by omega,zx (by omega) rfl,rfl⟩
 ·simp only[go_sem]
  (first | refine zd ?_ | refine ze ?_ (by rfl))<;>(simp only[go_sem]<;>try rfl)
theorem Vta (h:List Ob) (l:List Seg) (d:l.length<1099511627776):
  ACalls Tryz.prog 160 [.sl 5 (l.map jo),.sl 5 (l.map jo)] h λr h'=>r=bl true/\h'=h:=by
 refine zf Tryz.f160 [.tmp 4] 26 rfl rfl rfl rfl rfl rfl (by decide) (⟨_,_,⟨rfl,rfl⟩,.refl⟩) λB=>?_
 simp only[go_sem,List.length_map,bne_self_eq_false]
 refine zj (by decide) (λm T h'=>h'=h/\∃k:Nat,k<=l.length/\T 0= .sl 5 (l.map jo)/\T 1= .sl 5 (l.map jo)/\T 5=i64 k/\m=l.length - k) l.length
  ⟨rfl,0,by omega,by simp only[go_sem],by simp only[go_sem],by (simp only[go_sem]<;>rfl),rfl⟩ ?_
 rintro m T h' ⟨rfl,k,f,t0,t1,t5,rfl⟩
 simp only[go_sem,t5,t0,List.length_map]
 refine ways (λe=>?_) (λe=>?_)
 ·have b:=dlt e
  have a:=kG jo b
  have c:(k:Int)<l.length:=by omega
  simp only[go_sem]
  refine zn rfl [] 0 [(0,0,[]),(1,0,[]),(4,0,[]),(5,0,[]),(2,0,[]),(3,0,[]),(6,0,[]),(7,0,[]),(8,0,[])] rfl (by decide) (by decide) ?_
  simp only[go_sem,t5,t0,t1,a,c,jo,List.length_map,Int.toNat_natCast,Int.natCast_nonneg,beq_self_eq_true,Bool.and_self,Bool.not_true,zJ,bne_self_eq_false]
  exact ⟨l.length - (k+1),by omega,k+1,by omega,zx (by omega) rfl,rfl⟩
 ·simp only[go_sem]
  (first | refine zd ?_ | refine ze ?_ (by rfl))<;>(simp only[go_sem]<;>try rfl)
theorem Vua (h:List Ob) (l:List Flg) (d:l.length<1099511627776):
  ACalls Tryz.prog 83 [.sl 2 (l.map xv),.sl 2 (l.map xv)] h λr h'=>r=bl true/\h'=h:=by
 refine zf Tryz.f83 [.tmp 4] 26 rfl rfl rfl rfl rfl rfl (by decide) (⟨_,_,⟨rfl,rfl⟩,.refl⟩) λB=>?_
 simp only[go_sem,List.length_map,bne_self_eq_false]
 refine zj (by decide) (λm T h'=>h'=h/\∃k:Nat,k<=l.length/\T 0= .sl 2 (l.map xv)/\T 1= .sl 2 (l.map xv)/\T 5=i64 k/\m=l.length - k) l.length
  ⟨rfl,0,by omega,by simp only[go_sem],by simp only[go_sem],by (simp only[go_sem]<;>rfl),rfl⟩ ?_
 rintro m T h' ⟨rfl,k,f,t0,t1,t5,rfl⟩
 simp only[go_sem,t5,t0,List.length_map]
 refine ways (λe=>?_) (λe=>?_)
 ·have b:=dlt e
  have a:=kG xv b
  have c:(k:Int)<l.length:=by omega
  simp only[go_sem]
  refine zn rfl [] 0 [(0,0,[]),(1,0,[]),(4,0,[]),(5,0,[]),(2,0,[]),(3,0,[]),(6,0,[]),(7,0,[]),(8,0,[])] rfl (by decide) (by decide) ?_
  simp only[go_sem,t5,t0,t1,a,c,xv,List.length_map,Int.toNat_natCast,Int.natCast_nonneg,beq_self_eq_true,Bool.and_self,Bool.not_true,zJ,bne_self_eq_false]
  exact ⟨l.length - (k+1),by omega,k+1,by omega,zx (by omega) rfl,rfl⟩
 ·simp only[go_sem]
  (first | refine zd ?_ | refine ze ?_ (by rfl))<;>(simp only[go_sem]<;>try rfl)
theorem X3a (h:List Ob) (s:Setup) (f:SFew s):ACalls Tryz.prog 154 [z6 s (frA s)] h λr h'=>r= .sl 1 ((KP s).map zz)/\h'=h:=
 qK (by decide) (wg _) (Yfa h s f)
theorem Yha (h:List Ob) (s:Setup) (f:SFew s):ACalls Tryz.prog 80 [z6 s (frA s),z6 s (frA s)] h λr h'=>r=bl true/\h'=h:=by
 have i:=(vE (h:=h) s).ones
 have b:=w9a f
 refine zf Tryz.f80 [.tmp 4] 32 rfl rfl rfl rfl rfl rfl (by decide) (⟨_,_,⟨rfl,rfl⟩,.refl⟩) λB=>?_
 simp only[go_sem,i]
 refine zc (X3a _ s f) ?_
 rintro _ p ⟨rfl,n⟩
 rw[n]
 simp only[go_sem,i]
 refine zc (X3a _ s f) ?_
 rintro _ p ⟨rfl,o⟩
 rw[o]
 clear n o
 obtain ⟨l,q⟩:∃l,l=KP s:=⟨_,rfl⟩
 rw[<-q] at b⊢
 simp only[go_sem,List.length_map,bne_self_eq_false]
 obtain ⟨H,j⟩:∃H,H=h++[Ob.box 30 (zr s (frA s)),Ob.box 30 (zr s (frA s))]:=⟨_,rfl⟩
 rw[<-j]
 refine zj (by decide) (λm T h'=>h'=H/\∃k:Nat,k<=l.length/\T 5= .sl 1 (l.map zz)/\T 6= .sl 1 (l.map zz)/\T 7=i64 k/\m=l.length - k) l.length
  ⟨rfl,0,by omega,by simp only[go_sem],by simp only[go_sem],by (simp only[go_sem]<;>rfl),rfl⟩ ?_
 rintro m T h' ⟨rfl,k,t,t5,t6,g,rfl⟩
 simp only[go_sem,t5,g,List.length_map]
 refine ways (λe=>?_) (λe=>?_)
 ·have c:=dlt e
  have a:=kG zz c
  have d:(k:Int)<l.length:=by omega
  simp only[go_sem]
  refine zn rfl [] 0 [(0,0,[]),(1,0,[]),(4,0,[]),(5,0,[]),(2,0,[]),(3,0,[]),(6,0,[]),(7,0,[]),(8,0,[])] rfl (by decide) (by decide) ?_
  simp only[go_sem,t5,t6,g,a,d,zz,List.length_map,Int.toNat_natCast,Int.natCast_nonneg,bne_self_eq_false]
  exact ⟨l.length - (k+1),by omega,k+1,by omega,zx (by omega) rfl,rfl⟩
 ·simp only[go_sem]
  rw[j]
  (first | refine zd ?_ | refine ze ?_ (by rfl))<;>(simp only[go_sem]<;>try rfl)
theorem zeb (h:List Ob) (s:Setup) (f:SFew s) (b:Bk) (i:BkI s b):ACalls Tryz.prog 30 [BV s b,BV s b] h λr h'=>r=bl true/\h'=h:=by
 have a:=(vE (h:=h) s).ones
 have c:=i.few
 have d:=jXa i
 refine zf Tryz.f30 [.tmp 4] 28 rfl rfl rfl rfl rfl rfl (by decide) (⟨_,_,⟨rfl,rfl⟩,.refl⟩) λB=>?_
 simp only[go_sem,a]
 refine zc (Yha _ s f) ?_
 rintro _ c ⟨rfl,rfl⟩
 simp only[go_sem,a]
 refine zc (Yga _ b.evs (by omega)) ?_
 rintro _ c ⟨rfl,rfl⟩
 simp only[go_sem,a]
 refine zc (Vsa _ b.shut (by omega)) ?_
 rintro _ c ⟨rfl,rfl⟩
 simp only[go_sem,a]
 (first | refine zd ?_ | refine ze ?_ (by rfl))<;>(simp only[go_sem]<;>try rfl)
set_option maxRecDepth 100000
theorem Yia:Tryz.prog.stoodInHeld 42=false:=by kernel_rfl
theorem Yja:jz Tryz.prog 42=true:=by unfold jz;rw[Tryz.eqGuardType42,Yia];rfl
theorem Yka (h:List Ob) (R:RowV × List Flg) (a:R.2.length<1099511627776):ACalls Tryz.prog 32 [.ag (xN R),.ag (xN R)] h λr h'=>r=bl true/\h'=h:=by
 refine zf Tryz.f32 [.tmp 4] 100 rfl rfl rfl rfl rfl rfl (by decide) (⟨_,_,⟨rfl,rfl⟩,.refl⟩) λB=>?_
 simp only[go_sem,Yja,QGa,xN,Qu,List.cons_append,List.nil_append,beq_self_eq_true,Bool.and_self,zJ]
 refine zc (Vua _ R.2 a) ?_
 rintro _ b ⟨rfl,rfl⟩
 simp only[go_sem,xN,Qu,List.cons_append,List.nil_append,beq_self_eq_true,Bool.and_self,zJ]
 (first | refine zd ?_ | refine ze ?_ (by rfl))<;>(simp only[go_sem]<;>try rfl)
theorem Vva (h:List Ob) (l:List (RowV × List Flg)) (n:l.length<1099511627776) (f:∀R∈l,R.2.length<1099511627776):
  ACalls Tryz.prog 19 [.sl 27 (l.map xN),.sl 27 (l.map xN)] h λr h'=>r=bl true/\h'=h:=by
 refine zf Tryz.f19 [.tmp 4] 29 rfl rfl rfl rfl rfl rfl (by decide) (⟨_,_,⟨rfl,rfl⟩,.refl⟩) λB=>?_
 simp only[go_sem,List.length_map,bne_self_eq_false]
 refine zj (by decide) (λm T h'=>h'=h/\∃k:Nat,k<=l.length/\T 0= .sl 27 (l.map xN)/\T 1= .sl 27 (l.map xN)/\T 5=i64 k/\m=l.length - k) l.length
  ⟨rfl,0,by omega,by simp only[go_sem],by simp only[go_sem],by (simp only[go_sem]<;>rfl),rfl⟩ ?_
 rintro m T h' ⟨rfl,k,o,t0,t1,t5,rfl⟩
 simp only[go_sem,t5,t0,List.length_map]
 refine ways (λe=>?_) (λe=>?_)
 ·have c:=dlt e
  have a:=kG xN c
  have d:(k:Int)<l.length:=by omega
  have b:=f _ (List.getElem_mem c)
  obtain ⟨R,i⟩:∃R,R=l[k]:=⟨_,rfl⟩
  rw[<-i] at a b
  have g:AV.ag (xN R)=AV.ag (xN R):=rfl
  simp only[go_sem]
  refine zn rfl [] 0 [(0,0,[]),(1,0,[]),(4,0,[]),(5,0,[]),(2,0,[]),(3,0,[]),(6,0,[]),(7,0,[]),(8,0,[]),(9,0,[])] rfl (by decide) (by decide) ?_
  simp only[go_sem,t5,t0,t1,a,d,xN,Qu,List.cons_append,List.nil_append,List.length_map,Int.toNat_natCast,Int.natCast_nonneg]
  refine zc (Yka _ R b) ?_
  rintro _ j ⟨rfl,rfl⟩
  simp only[go_sem,t5]
  exact ⟨l.length - (k+1),by omega,k+1,by omega,t0,t1,zx (by omega) rfl,rfl⟩
 ·simp only[go_sem]
  (first | refine zd ?_ | refine ze ?_ (by rfl))<;>(simp only[go_sem]<;>try rfl)
structure AnFew (w:An):Prop where
 rows:w.rows.length<1099511627776
 flgs:∀R∈w.rows,R.2.length<1099511627776
 segs:w.segs.length<1099511627776
theorem j0a:∀l:List Int,z8a (l.map je)=some (l.map λn=>UInt8.ofNat n.toNat)
 | []=>rfl
 | n::l=>by
   rw[List.map_cons,List.map_cons]
   show (z8a (l.map je)).map _=_
   rw[j0a l]
   rfl
theorem zfb (h:List Ob) (w:An) (k:AnFew w):ACalls Tryz.prog 94 [.ag (jE w),.ag (jE w)] h λr h'=>r=bl true/\h'=h:=by
 refine zf Tryz.f94 [.tmp 4] 37 rfl rfl rfl rfl rfl rfl (by decide) (⟨_,_,⟨rfl,rfl⟩,.refl⟩) λB=>?_
 simp only[go_sem]
 refine zc (Vva _ w.rows k.rows k.flgs) ?_
 rintro _ a ⟨rfl,rfl⟩
 simp only[go_sem]
 refine zc (Vta _ w.segs k.segs) ?_
 rintro _ a ⟨rfl,rfl⟩
 simp only[go_sem,j0a,yea,beq_self_eq_true,zJ]
 (first | refine zd ?_ | refine ze ?_ (by rfl))<;>(simp only[go_sem]<;>try rfl)
theorem zhb (h:List Ob) (l:List An) (y:AV) (j:SlOf h y 4 (l.map jE)) (q:l.length<1099511627776) (n:∀w∈l,AnFew w):
  ACalls Tryz.prog 36 [.sl 4 (l.map jE),y] h λr h'=>r=bl true/\h'=h:=by
 have d:=j.rows
 refine zf Tryz.f36 [.tmp 4] 29 rfl rfl rfl rfl rfl rfl (by decide) (⟨_,_,⟨rfl,rfl⟩,.refl⟩) λB=>?_
 simp only[go_sem,d,List.length_map,bne_self_eq_false]
 refine zj (by decide) (λm T h'=>h'=h/\∃k:Nat,k<=l.length/\T 0= .sl 4 (l.map jE)/\T 1=y/\T 5=i64 k/\m=l.length - k) l.length
  ⟨rfl,0,by omega,by simp only[go_sem],by simp only[go_sem],by (simp only[go_sem]<;>rfl),rfl⟩ ?_
 rintro m T h' ⟨rfl,k,s,t0,t1,t5,rfl⟩
 simp only[go_sem,t5,t0,List.length_map]
 refine ways (λe=>?_) (λe=>?_)
 ·have b:=dlt e
  have a:=kG jE b
  have f:=j.at (i:=k) (by simpa using b)
  have g:(k:Int)<l.length:=by omega
  have c:=n _ (List.getElem_mem b)
  obtain ⟨w,o⟩:∃w,w=l[k]:=⟨_,rfl⟩
  rw[<-o] at a c
  simp only[go_sem]
  refine zn rfl [] 0 [(0,0,[]),(1,0,[]),(4,0,[]),(5,0,[]),(2,0,[]),(3,0,[]),(6,0,[]),(7,0,[]),(8,0,[]),(9,0,[])] rfl (by decide) (by decide) ?_
  simp only[go_sem,t5,t0,t1,a,g,f,d,List.length_map,Int.toNat_natCast,Int.natCast_nonneg]
  refine zc (zfb _ w c) ?_
  rintro _ p ⟨rfl,rfl⟩
  simp only[go_sem,t5]
  exact ⟨l.length - (k+1),by omega,k+1,by omega,t0,t1,zx (by omega) rfl,rfl⟩
 ·simp only[go_sem]
  (first | refine zd ?_ | refine ze ?_ (by rfl))<;>(simp only[go_sem]<;>try rfl)
theorem yv (e:Int):AnFew (ja e):=⟨by show 0<_;omega,λ_ h=>(by cases h),by show 0<_;omega⟩
theorem Xya {s:Setup} {b:Bk} (f:SFit s) (i:BkI s b) (c:s.rates.length<4096) (q:Cm):AnFew (doP s b q).2:=by
 have d:=i.few
 have wf:=λw wk=>(jRa f b.evs w wk (by omega)).2
 unfold doP
 split
 ·exact yv _
 ·split
  ·exact yv _
  ·split
   ·show AnFew (if _ then _ else _)
    split
    ·exact ⟨by show 1<_;omega,λR a=>by rw[List.mem_singleton.1 a];exact Nat.lt_trans (wf _ _) (by omega),by show 0<_;omega⟩
    ·exact yv _
   ·split
    ·show AnFew (if _ then _ else _)
     split
     ·have:=Qt (s:=s) (l:=b.evs) (w:=q.worker)
      exact ⟨by show 0<_;omega,λ_ h=>(by cases h),by show (zM s b.evs q.worker).1.length<_;omega⟩
     ·exact yv _
    ·split
     ·split<;>exact yv _
     ·split
      ·split<;>exact yv _
      ·split
       ·show AnFew (if _ then _ else _)
        split
        ·refine ⟨?_,λR a=>?_,by show 0<_;omega⟩
         ·show (ju s b q.week).length<_
          rw[ju,List.length_map,List.length_range];omega
         ·obtain ⟨w,_,rfl⟩:=List.mem_map.1 a
          exact Nat.lt_trans (wf _ _) (by omega)
        ·exact yv _
       ·split<;>exact yv _
theorem QFa {s:Setup} (f:SFit s) (a:s.rates.length<4096):∀(l:List Cm) {b:Bk},BkI s b->∀w∈(xI s b l).2,AnFew w
 | [],_,_,_,h=>by cases h
 | q::l,b,i,w,h=>by
   rcases List.mem_cons.1 h with rfl | h
   ·exact Xya f i a q
   ·exact QFa f a l (vqa q i) w h
end Go.Proofs.YtfmldcilgbbimaaGreat.Ax
