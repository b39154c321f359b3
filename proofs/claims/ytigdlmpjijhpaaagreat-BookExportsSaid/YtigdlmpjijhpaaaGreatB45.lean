import Derived.Test.YtigdlmpjijhpaaaGreatBA
import Derived.Test.YtigdlmpjijhpaaaGreatB44
import Derived.Test.YtigdlmpjijhpaaaGreatB41
import Derived.Test.YtigdlmpjijhpaaaGreatB20
import Derived.Test.YtigdlmpjijhpaaaGreatB23
import Derived.Test.YtigdlmpjijhpaaaGreatB43
import Derived.Test.YtigdlmpjijhpaaaGreatB34
import Derived.Test.YtigdlmpjijhpaaaGreatB35
import Derived.Test.YtigdlmpjijhpaaaGreatB40
import Derived.Test.YtigdlmpjijhpaaaGreatB38
import Derived.Test.YtigdlmpjijhpaaaGreatB24
import Derived.ScopeJumps
set_option linter.all false
namespace Go.Proofs.YtigdlmpjijhpaaaGreat.Ax
open Go Go.Proofs Go.RowKit
set_option maxRecDepth 100000
abbrev V1(q:Cm):List AV:=[i64 q.kind,i64 q.fx.op,i64 q.fx.ev.id,i64 q.fx.ev.worker,i64 q.fx.ev.at_,i64 q.fx.ev.kind,i64 q.fx.ev.from_,i64 q.fx.ev.to_,i64 q.fx.ev.element,i64 q.fx.ev.units,i64 q.fx.ev.class_,i64 q.fx.ev.gear,i64 q.fx.ev.code,i64 q.worker,i64 q.week,i64 q.last]
abbrev BV(s:Setup)(b:Bk):AV:= .ag (wm s (frA s) (BX b) (BC b))
abbrev vo(w:An):List AV:=[i64 w.err,.sl 27 (w.rows.map xP),.sl 5 (w.segs.map kG),.sl 1 (w.bytes.map qX)]
theorem X3a{s:Setup}{b:Bk}(i:BkI s b):b.shut.length<=53:=by
 have d:b.shut.Nodup:=i.rise.imp λ{a b} h q=>by omega
 have:=K8 (b:=J0 0 52) d λw c=>by rw[wFa];exact i.rng w c
 have e:(J0 0 52).length=53:=by rw[J0,zb,xi];rfl
 omega
theorem QJa{P:Program}{x:AV}{n:FuncId}{ar:List AV}{h:List Ob}{k:AV->List Ob->Prop}(e:x= .fn (.func n) [] [])(g: @qwa P n ar h ⟨k⟩): @Yn P x ar h ⟨k⟩:=by
 subst e
 rw[xBa,List.nil_append,zF]
 exact g
theorem xAb(h:List Ob)(s:Setup)(f:SFit s)(b:Bk)(i:BkI s b)(q:Cm)(D:s.rates.length<4096):
  ACalls Tryz.prog 29 [BV s b,.ag (V1 q)] h λr h'=>(∃m l j:AV,r= .tup [BV s (doP s b q).1,.ag [i64 (doP s b q).2.err,m,l,j]]/\SlN m 27 ((doP s b q).2.rows.map xP)/\SlN l 5 ((doP s b q).2.segs.map kG)/\SlN j 1 ((doP s b q).2.bytes.map qX))/\h'=h:=by
 have hex:∃r h',((∃m l j:AV,r=AV.tup [BV s (doP s b q).1,.ag [i64 (doP s b q).2.err,m,l,j]]/\SlN m 27 ((doP s b q).2.rows.map xP)/\SlN l 5 ((doP s b q).2.segs.map kG)/\SlN j 1 ((doP s b q).2.bytes.map qX))/\h'=h)/\ResK h h':=⟨_,_,⟨⟨_,_,_,rfl,.inl rfl,.inl rfl,.inl rfl⟩,rfl⟩,.refl⟩
 have y:=(Q3 (h:=h) s).ones
 refine zj Tryz.f29 [.cell 4 63,.cell 5 71] 38 rfl rfl rfl rfl rfl rfl (by decide) (hex) λB=>?_
 simp only[go_sem,y]
 refine ways (λe=>?_) (λe=>?_)
 ·have a:q.kind≠1/\q.kind≠2/\q.kind≠3/\q.kind≠4/\q.kind≠5/\q.kind≠6/\q.kind≠7/\q.kind≠8:=by
   simp only[Bool.not_eq_true',zY,beq_eq_false_iff_ne] at e
   omega
  have J:doP s b q=(b,xn 240):=by unfold doP;rw[if_neg (by omega),if_neg (by omega),if_neg (by omega),if_neg (by omega),if_neg (by omega),if_neg (by omega),if_neg (by omega),if_neg (by omega)]
  rw[J]
  simp only[go_sem,y]
  refine⟨.tup [BV s b,.ag [i64 240,nl,nl,nl]],by simp only[go_sem],.inr ⟨h,_,rfl,rfl,?_,.refl,⟨nl,nl,nl,rfl,.inr ⟨rfl,rfl⟩,.inr ⟨rfl,rfl⟩,.inr ⟨rfl,rfl⟩⟩,rfl⟩⟩
  simp only[frA,AV.lt,qz,Kf,Kg,Q4,ZE,yl,Bool.and_self]
 ·have a:q.kind=1∨q.kind=2∨q.kind=3∨q.kind=4∨q.kind=5∨q.kind=6∨q.kind=7∨q.kind=8:=by
   simp only[Bool.not_eq_false',Bool.or_eq_true,beq_iff_eq] at e
   omega
  have c:=X3a i
  have t:∃n,(if 1=q.kind then AV.fn (.func 77) [] [] else if 2=q.kind then AV.fn (.func 78) [] [] else if 3=q.kind then AV.fn (.func 79) [] [] else if 4=q.kind then AV.fn (.func 80) [] [] else if 5=q.kind then AV.fn (.func 81) [] [] else if 6=q.kind then AV.fn (.func 82) [] [] else if 7=q.kind then AV.fn (.func 83) [] [] else if 8=q.kind then AV.fn (.func 84) [] [] else AV.v Value.nilFunc)=AV.fn (.func n) [] []/\∀(H:List Ob) (d:Nat),H[d]? =some (.box 154 (qG s (frA s) (BX b) (BC b) 0 nl nl nl q))->qfa n H d s (frA s) b q:=by
   rcases a with a|a|a|a|a|a|a|a
   ·exact⟨_,by rw[a];rfl,λH d g=>Wda g (Q3 s) i c a⟩
   ·exact⟨_,by rw[a];rfl,λH d g=>xyb g (Q3 s) i c a⟩
   ·exact⟨_,by rw[a];rfl,λH d g=>xzb g (Q3 s) f i a⟩
   ·exact⟨_,by rw[a];rfl,λH d g=>jpb g (Q3 s) f i a⟩
   ·exact⟨_,by rw[a];rfl,λH d g=>jqb g i c a⟩
   ·exact⟨_,by rw[a];rfl,λH d g=>jrb g c a⟩
   ·exact⟨_,by rw[a];rfl,λH d g=>Wea g (Q3 s) f i c D a⟩
   ·exact⟨_,by rw[a];rfl,λH d g=>jsb g a⟩
  obtain⟨n,F,told⟩:=t
  simp only[go_sem]
  refine QJa F ?_
  refine zg (told _ _ (by rw[zK (k:=5) rfl];rfl)) ?_
  rintro _ M ⟨rfl,m,l,j,N,K,A,x,z⟩
  rw[K]
  have u:AV.one m=true:=by rcases A with rfl|⟨rfl,_⟩<;>rfl
  have p:AV.one l=true:=by rcases x with rfl|⟨rfl,_⟩<;>rfl
  have o:AV.one j=true:=by rcases z with rfl|⟨rfl,_⟩<;>rfl
  obtain⟨C,E⟩:∃C,C=(doP s b q).1:=⟨_,rfl⟩
  obtain⟨w,I⟩:∃w,w=(doP s b q).2:=⟨_,rfl⟩
  rw[<-I] at A x z⊢
  rw[<-E]
  clear e F told
  have L:m.lt h.length=true:=by
   rcases A with rfl|⟨rfl,_⟩
   ·exact Q8 _
   ·rfl
  have l2:l.lt h.length=true:=by
   rcases x with rfl|⟨rfl,_⟩
   ·exact jVa _
   ·rfl
  have G:j.lt h.length=true:=by
   rcases z with rfl|⟨rfl,_⟩
   ·exact Zl _
   ·rfl
  refine zV rfl [] 0 [(0,0,[]),(1,0,[]),(2,0,[]),(4,0,[]),(5,0,[]),(6,0,[]),(3,0,[]),(7,0,[]),(8,0,[7]),(9,0,[])] rfl (by decide) (by decide) ?_
  simp only[go_sem,y,u,p,o]
  refine⟨.tup [BV s C,.ag [i64 w.err,m,l,j]],by simp only[go_sem,y,u,p,o],.inr ⟨h,_,rfl,rfl,?_,.refl,⟨m,l,j,rfl,A,x,z⟩,rfl⟩⟩
  simp only[frA,AV.lt,qz,Kf,Kg,Q4,ZE,yl,L,l2,G,Bool.and_self]
theorem SlN.weak{y:AV}{e:Nat}{rows:List (List AV)}(k:SlN y e rows):WeakV y (.sl e rows):=by
 rcases k with rfl|⟨rfl,rfl⟩
 ·exact .refl _
 ·exact .nil e
theorem WeakV.ag4{z a h b f d g:AV}(k:WeakV a h)(l:WeakV b f)(s:WeakV d g):WeakV (.ag [z,a,b,d]) (.ag [z,h,f,g]):=λc v ⟨vs,e,u,m,t,a0,x,r,p,a1,y,n,o,a2,w,q,i,a3,j⟩=>⟨vs,e,u,m,t,a0,x,r,p,k c x a1,y,n,o,l c y a2,w,q,i,s c w a3,j⟩
theorem cDo(h:List Ob)(s:Setup)(f:SFit s)(b:Bk)(i:BkI s b)(q:Cm)(a:s.rates.length<4096):
  ACalls Tryz.prog 29 [BV s b,.ag (V1 q)] h λr h'=>r= .tup [BV s (doP s b q).1,.ag (vo (doP s b q).2)]/\h'=h:=
 yL (xAb h s f b i q a) λr h' ⟨⟨j,g,e,d,k1,k2,k3⟩,c⟩=>by
  subst d
  exact⟨_,⟨rfl,c⟩,.two (.refl _) (.ag4 k1.weak k2.weak k3.weak)⟩
abbrev zB:Ob:= .box 63 (wm zS zA kW kW)
structure AllI (h h':List Ob) (s:Setup) (b:Bk) (y:AV) (rows:List (List AV)):Prop where
 pre:Pre h h'
 b0:h'[h.length]? =some (.box 63 (wm s (frA s) (BX b) (BC b)))
 b1:h'[h.length+1]? =some zB
 own:OwnS h h' 71 4 y rows
theorem AllI.app{h h':List Ob}{s:Setup}{b:Bk}{y:AV}{rows:List (List AV)}(k:AllI h h' s b y rows){M:List Ob}(a:NoRes M):AllI h (h'++M) s b y rows:=
 ⟨k.pre.app a,zf k.b0,zf k.b1,k.own.app M⟩
theorem AllI.put{h h':List Ob}{s:Setup}{b:Bk}{y:AV}{rows:List (List AV)}(k:AllI h h' s b y rows)(a:Bk):AllI h (h'.set h.length (.box 63 (wm s (frA s) (BX a) (BC a)))) s a y rows:=
 ⟨k.pre.set (by omega) rfl,zq k.b0,by rw[zc (by omega)];exact k.b1,k.own.setB k.b0⟩
theorem AllI.row{h h':List Ob}{s:Setup}{b:Bk}{y:AV}{rows:List (List AV)}(k:AllI h h' s b y rows){id ty e st:Nat}{xs:List (List AV)}(hid:h.length<=id)(a:h'[id]? =some (.row ty e xs st)){o:Ob}(d:o.isRes=false){y':AV}{rows':List (List AV)}(c:OwnS h (h'.set id o) 71 4 y' rows'):AllI h (h'.set id o) s b y' rows':=
 ⟨k.pre.set hid d,Zk (h0:=h) k.b0 a,Zk (h0:=h) k.b1 a,c⟩
theorem QKa{s:Setup}{b:Bk}{l:List Cm}{n:Nat}(a:n<l.length):vG s b (l.take (n+1))=((doP s (vG s b (l.take n)).1 l[n]).1,(vG s b (l.take n)).2++[(doP s (vG s b (l.take n)).1 l[n]).2]):=by
 rw[show l.take (n+1)=l.take n++[l[n]] from(zI a).symm,kPa]
 rfl
theorem Wfa{l:List Cm}{i:Nat}(h:i<l.length):(l.map V1)[i]? =some (V1 l[i]):=by rw[zx,zi h];rfl
theorem X4a{n:Nat}:∀l:List An,qQ n (l.map vo)=true
 | []=>rfl
 | a::l=>by
   rw[List.map_cons,qQ,X4a l]
   simp only[AV.lt,qz,Q8,jVa,Zl,Bool.and_self]
theorem jtb{n:Nat}{s:Setup}{b:Bk}:(BV s b).lt n=true:=by
 simp only[frA,AV.lt,qz,Kf,Kg,Q4,ZE,yl,Bool.and_self]
theorem jub(h:List Ob)(s:Setup)(f:SFit s)(b:Bk)(i:BkI s b)(x:AV)(l:List Cm)(hx:SlOf h x 16 (l.map V1))(hl:l.length<1048576)(Z:s.rates.length<4096):
  ACalls Tryz.prog 28 [BV s b,x] h λr h'=>∃L y,h'=h++L/\NoRes L/\r= .tup [BV s (vG s b l).1,y]/\New h 4 y ((vG s b l).2.map vo) L:=by
 have hex:∃r h',(∃L y,h'=h++L/\NoRes L/\r=AV.tup [BV s (vG s b l).1,y]/\New h 4 y ((vG s b l).2.map vo) L)/\ResK h h':=⟨_,_,⟨[],.sl 4 _,rfl,jf,rfl,λ_ _=>⟨rfl,λ_=>rfl⟩⟩,qS⟩
 have F:=(Q3 (h:=h) s).ones
 have X:∀M,z6 (h++M) x=some (l.map V1):=λM=>(hx.app M).rows
 refine zj Tryz.f28 [.cell 4 63,.tmp 5] 31 rfl rfl rfl rfl rfl rfl (by decide) (hex) λB=>?_
 simp only[go_sem,F,X,zb]
 refine zP (by decide) (λm T H=>∃(n:Nat) (y:AV),n<=l.length/\AllI h H s (vG s b (l.take n)).1 y ((vG s b (l.take n)).2.map vo)/\T 2= .ptr h.length 0/\T 4= .ptr (h.length+1) 0/\T 6=y/\T 11=x/\T 12=i64 l.length/\T 13=i64 n/\m=l.length - n) l.length
  ⟨0,nl,by omega,⟨⟨_,rfl,zr rfl (zG rfl)⟩,by rw[zM rfl];rfl,by rw[zK (k:=1) rfl];rfl,.inl ⟨rfl,rfl⟩⟩,by simp only[go_sem],by simp only[go_sem],by(simp only[go_sem]<;>rfl),by simp only[go_sem],by simp only[go_sem],by(simp only[go_sem]<;>rfl),rfl⟩ ?_
 rintro m T H ⟨n,y,hn,c,t2,t4,t6,z,E,t,rfl⟩
 have J:=c.pre.sl hx
 simp only[go_sem,E,t]
 refine ways (λe=>?_) (λe=>?_)
 ·have D:=dlt e
  have u:=Wfa D
  have S:(n:Int)<l.length:=by omega
  have g:=QKa (s:=s) (b:=b) D
  have W:=J.rows
  have K:=J.at (i:=n) (by simpa using D)
  have I:=kNa (l.take n) i
  obtain⟨j,O⟩:∃j,j=(vG s b (l.take n)).1:=⟨_,rfl⟩
  obtain⟨A,hA⟩:∃A,A=(vG s b (l.take n)).2:=⟨_,rfl⟩
  rw[<-O, <-hA] at g
  rw[<-O] at I c
  rw[<-hA] at c
  obtain⟨q,hq⟩:∃q,q=l[n]:=⟨_,rfl⟩
  rw[<-hq] at u g
  have v:=c.b0
  have a:∀M,(H++M)[h.length]? =some (.box 63 (wm s (frA s) (BX j) (BC j))):=λM=>zf v
  simp only[go_sem,t2,z,t,u,S,W,K,a,F,zb,Int.toNat_natCast,zh]
  refine zg (cDo _ s f j I q Z) ?_
  rintro _ h1 ⟨rfl,e1⟩
  rw[e1]
  obtain⟨b2,U⟩:∃b2,b2=(doP s j q).1:=⟨_,rfl⟩
  obtain⟨w,hw⟩:∃w,w=(doP s j q).2:=⟨_,rfl⟩
  rw[<-U, <-hw] at g⊢
  simp only[go_sem,t2,F,a]
  refine zV rfl [.res] 1 [(1,0,[]),(0,0,[]),(2,0,[]),(3,0,[]),(4,0,[0]),(5,0,[]),(6,0,[])] rfl (by decide) (by decide) ?_
  rcases c.own with⟨rfl,P⟩|⟨id,st,u1,rfl,u3⟩
  ·simp only[go_sem,t2,t6,t,F,a]
   refine⟨l.length - (n+1),by omega,n+1,.tl (H.length+4) 0,by omega,?_,t4,rfl,z,E,qm (by omega) rfl,rfl⟩
   rw[g]
   have d:=(c.app (M:=[.box 79 (V1 q),.box 63 (wm s (frA s) (BX b2) (BC b2)),.box 71 (vo w),.row 71 4 [vo w] 0,.row 71 4 [vo w] 0]) (zr rfl (zr rfl (zr rfl (zr rfl (zG rfl)))))).put b2
   refine⟨d.pre,d.b0,d.b1,OwnS.setB (.inr ⟨_,0,?_,rfl,?_⟩) (a _)⟩
   ·have:=c.pre.len;omega
   ·rw[zy,P,zK (k:=4) rfl];rfl
  ·have p:∀M,(H++M)[id]? =some (.row 71 4 (A.map vo) st):=λM=>zf u3
   have ο:A.length<=n:=by rw[hA,kOa,qa];omega
   have G:((A.map vo).length+1)*81<=140737488355328:=by rw[zb];omega
   have N:∀M o',((H++M).set id o')[h.length]? =some (.box 63 (wm s (frA s) (BX j) (BC j))):=λM o'=>Zk (h0:=h) (a M) (p M)
   have ν:=(zd.1 u3).1
   have R:∀(o1 o2 o3 o4 o':Ob),((H++[o1,o2,o3,o4]).set id o')[H.length+1]? =some o2:=λo1 o2 o3 o4 o'=>by
    rw[zc (by omega),zK (k:=1) rfl];rfl
   simp only[go_sem,t2,t6,t,F,a,p,G,N,R]
   refine⟨l.length - (n+1),by omega,n+1,.tl id (st+1),by omega,?_,t4,rfl,z,E,qm (by omega) rfl,rfl⟩
   rw[g]
   have d:=c.app (M:=[.box 79 (V1 q),.box 63 (wm s (frA s) (BX b2) (BC b2)),.box 71 (vo w),.row 71 4 [vo w] 0]) (zr rfl (zr rfl (zr rfl (zG rfl))))
   have δ:=d.row u1 (p _) (o:= .row 71 4 ((A++[w]).map vo) (st+1)) rfl (.inr ⟨id,st+1,u1,rfl,zq (p _)⟩)
   have Q:=δ.put b2
   rw[zy] at Q⊢
   exact Q
 ·have χ:=xb e
  have V:n=l.length:=by omega
  subst V
  rw[zZ] at c
  have v:=c.b0
  have C:=c.b1
  simp only[go_sem,t2,t4,t6,v,C,F]
  have Y:=c.own.rows.one
  have hk:=OwnS.setB (o:= .box 63 (wm s (frA s) (BX (vG s b l).1) (BC (vG s b l).1))) c.own C
  have hp:Pre h (H.set (h.length+1) (.box 63 (wm s (frA s) (BX (vG s b l).1) (BC (vG s b l).1)))):=c.pre.set (by omega) rfl
  have β:(H.set (h.length+1) (.box 63 (wm s (frA s) (BX (vG s b l).1) (BC (vG s b l).1))))[h.length+1]? =some (.box 63 (wm s (frA s) (BX (vG s b l).1) (BC (vG s b l).1))):=zq C
  obtain⟨L,hL,hN⟩:=hp
  refine⟨.tup [BV s (vG s b l).1,y],?_,.inl ⟨L,y,hL,hN,rfl,?_⟩⟩
  ·simp only[go_sem,β,t4,Y]
  ·rw[hL] at hk
   exact hk.new (zn _)
theorem qga{P:Program}{f:FuncId}{ar:List AV}{h:List Ob}{u:AV}{e:Nat}{rows:List (List AV)}(o:0<e)(d:u.lt h.length=true)(q:qQ h.length rows=true)(c:ACalls P f ar h λr h'=>∃L x,h'=h++L/\NoRes L/\r= .tup [u,x]/\New h e x rows L):ACalls P f ar h λr h'=>r= .tup [u,.sl e rows]/\h'=h:=by
 refine⟨c.1,⟨_,_,⟨rfl,rfl⟩,.refl⟩,λφ m B w g vs l hB b=>?_⟩
 refine(c.2.2 φ m B w g vs l hB b).mono λD w' ⟨v,r,h',g',y,⟨L,x,z,_,n,n1⟩,_,i,k⟩=>?_
 subst z n
 rw[jC m] at i k
 have a:(fill φ h).length=h.length:=q9
 obtain⟨us,rfl,s,E,C,a1,p,A,t,a2,j⟩:=k
 have j:A=[]:=j
 subst j t
 refine⟨_,_,h,g',y,⟨rfl,rfl⟩,.refl,i.drop rfl (by have:=l.ids;exact this),us,rfl,?_⟩
 rw[C]
 exact⟨s,_,rfl,AR.less (xD w' g' (fill φ h) L) _ _ (by rw[q9];exact d) a1,p,[],rfl,QT i.ok o a2 (n1 _ a) (λid hid=>by rw[a];exact n1.root id hid) (by rw[a];exact q),rfl⟩
theorem xBb(h:List Ob)(s:Setup)(f:SFit s)(b:Bk)(i:BkI s b)(x:AV)(l:List Cm)(c:SlOf h x 16 (l.map V1))(d:l.length<1048576)(a:s.rates.length<4096):
  ACalls Tryz.prog 28 [BV s b,x] h λr h'=>r= .tup [BV s (vG s b l).1,.sl 4 ((vG s b l).2.map vo)]/\h'=h:=
 qga (by decide) jtb (X4a _) (jub h s f b i x l c d a)
def WeakL(l l':List AV):Prop:=∀(c:Ctx) (vs:List Value),ARs c l vs->ARs c l' vs
theorem WeakL.refl(l:List AV):WeakL l l:=λ_ _ h=>h
theorem WeakL.cons{a b:AV}{l l':List AV}(f:WeakV a b)(d:WeakL l l'):WeakL (a::l) (b::l'):=λc vs ⟨u,r,e,k1,k2⟩=>⟨u,r,e,f c u k1,d c r k2⟩
theorem WeakL.app{l l':List AV}:∀(k:List AV),WeakL l l'->WeakL (k++l) (k++l')
 | [],h=>h
 | _::k,h=> .cons (.refl _) (WeakL.app k h)
theorem WeakV.ag{l l':List AV}(h:WeakL l l'):WeakV (.ag l) (.ag l'):=λc v ⟨vs,e,k⟩=>⟨vs,e,h c _ k⟩
def Wga:AV:= .ag (wm zS zA kW kW)
theorem W7a(h:List Ob)(s:Setup)(a:SA)(k:SIn h s a)(f:SFit s):
  ACalls Tryz.prog 26 [je s a] h λr h'=>r= .tup [if qv s then BV s jZa else Wga,i64 (if qv s then 0 else 70)]/\h'=h:=
 yL (xwb h s a k f) λr h' ⟨c,b⟩=>by
  subst c
  refine⟨_,⟨rfl,b⟩,?_⟩
  unfold Qva
  cases qv s
  ·exact .refl _
  ·refine .two (.ag ?_) (.refl _)
   exact WeakL.app ((wm s (frA s) nl nl).take 23) (.cons (.nil 11) (.cons (.nil 1) (.refl [])))
end Go.Proofs.YtigdlmpjijhpaaaGreat.Ax
namespace Go.Proofs.YtigdlmpjijhpaaaGreat.Ax
open Go Go.Proofs
set_option maxRecDepth 100000
theorem xCb(h:List Ob)(s:Setup)(a:SA)(k:SIn h s a)(x:AV)(l:List Cm)(j:SlOf h x 16 (l.map V1)):ACalls Tryz.prog 27 [je s a,x] h λr h'=>r=bl (jRa s && decide (l.length<=40))/\h'=h:=by
 refine zj Tryz.f27 [.tmp 4] 12 rfl rfl rfl rfl rfl rfl (by decide) (⟨_,_,⟨rfl,rfl⟩,.refl⟩) λB=>?_
 simp only[go_sem,k.w.one,k.e.one,k.c.one,k.g.one,k.r.one,k.t.one]
 refine zg (c25 _ s a (k.app _)) ?_
 rintro _ m ⟨rfl,i⟩
 subst i
 have f:∀M,z6 (h++M) x=_:=λM=>(j.app M).rows
 have d:decide ((l.length:Int)<=40)=decide (l.length<=40):=decide_eq_decide.2 (by omega)
 cases b:jRa s with
 | false=>
   simp only[go_sem,b,qD]
   refine zm ?_<;>(simp only[go_sem,b,Bool.false_and]<;>try rfl)
 | true=>
   simp only[go_sem,b,qD,f,zb,d]
   refine zm ?_<;>(simp only[go_sem,b,Bool.true_and]<;>try rfl)
theorem zHb{s:Setup}(h:jRa s=true):s.rates.length<4096:=by
 simp only[jRa,decide_eq_true_eq] at h
 omega
def s2:Setup:=⟨1,[],(1,1),[((1,1),(1,1))],[(1,1)],[(1,1)],0,1,36000,0,86400,0,28800,43200,144000,0,0,[1500],0,0,0,[]⟩
def ev0:Ev:=⟨0,0,0,0,0,0,0,0,0,0,0⟩
def Wha:Ev:=⟨1,0,0,1,0,0,0,0,0,0,0⟩
def W8a:Ev:=⟨2,0,3600,2,0,0,0,0,0,0,0⟩
def fx0:Fx:=⟨0,ev0⟩
def cm0(k:Int):Cm:=⟨k,fx0,0,0,0⟩
def l2:List Cm:=[⟨1,⟨0,Wha⟩,0,0,0⟩,⟨2,⟨1,W8a⟩,0,0,0⟩,⟨1,⟨0,Wha⟩,0,0,0⟩,cm0 5,⟨2,⟨2,Wha⟩,0,0,0⟩,cm0 3,cm0 4,cm0 7,cm0 5,cm0 9,cm0 6,cm0 7,cm0 8]
def evs2:List Ev:=[Wha,W8a]
def wVa:RowV × List Flg:=jj s2 evs2 0 0
def byt2:List Int:=(jZ [wVa]).1
def seg2:List Seg:=(qF s2 evs2 0).1
def an2:List An:=[xn 0,xn 0,xn 130,xn 0,xn 211,⟨0,[wVa],[],[]⟩,⟨0,[],seg2,[]⟩,⟨0,[wVa],[],byt2⟩,xn 212,xn 240,xn 0,xn 212,xn 0]
theorem wR:vG s2 jZa l2=(⟨evs2,[]⟩,an2):=by kernel_rfl
theorem zqb:wVa.1.total=1500:=by kernel_rfl
theorem X5a:decide (0<byt2.length)=true:=by kernel_rfl
theorem zrb:seg2.map (·.to_)=[3600]:=by kernel_rfl
theorem ok2:qv s2=true:=by kernel_rfl
theorem jvb:SFit s2:=⟨by simp[Fit,s2],by simp[jo,Fit,s2],by simp[jo,Fit,s2],by simp[jo,Fit,s2],by simp[jo,Fit,s2],by simp[jo,Fit,s2],by simp[s2],by simp[s2],by simp[s2],by simp[s2],by simp[s2],by simp[s2]⟩
def a2(n:Nat):SA:=⟨.v (.slice none 0 0),.tl (n+2) 0,.tl (n+3) 0,.tl (n+4) 0,.tl (n+5) 0,.v (.slice none 0 0)⟩
def H2(n:Nat):List Ob:=[.box 30 (qd s2 (a2 n)),.box 24 (jP (1,1)),.row 183 4 (s2.elements.map XX) 0,.row 24 2 (s2.classes.map jP) 0,.row 24 2 (s2.gears.map jP) 0,.row 3 1 (s2.rates.map qB) 0]
theorem pl2(h:List Ob):ACalls Tryz.prog 75 [] h λr h'=>r=je s2 (a2 h.length)/\h'=h++H2 h.length:=by
 refine zj Tryz.f75 [.cell 0 30] 14 rfl rfl rfl rfl rfl rfl (by decide) (⟨_,_,⟨rfl,rfl⟩,qS⟩) λB=>?_
 simp only[go_sem]
 exact⟨je s2 (a2 h.length),by(simp only[go_sem]<;>rfl),.inl ⟨rfl,rfl⟩⟩
theorem xDb(h:List Ob):SIn (h++H2 h.length) s2 (a2 h.length):=
 ⟨JV,yW (by rw[zK (k:=2) rfl];rfl),yW (by rw[zK (k:=3) rfl];rfl),yW (by rw[zK (k:=4) rfl];rfl),yW (by rw[zK (k:=5) rfl];rfl),JV⟩
theorem xEb(h:List Ob):SIn h zS zA:=⟨JV,JV,JV,JV,JV,JV⟩
theorem xFb:SFit zS:=⟨by simp[Fit,zS],by simp[jo,Fit,zS],by simp[jo,Fit,zS],by simp[jo,Fit,zS],by simp[jo,Fit,zS],by simp[jo,Fit,zS],by simp[zS],by simp[zS],by simp[zS],by simp[zS],by simp[zS],by simp[zS]⟩
theorem okz:qv zS=false:=by kernel_rfl
theorem jwb:an2.map vo=[vo (xn 0),vo (xn 0),vo (xn 130),vo (xn 0),vo (xn 211),[i64 0,.sl 27 [xP wVa],.sl 5 [],.sl 1 []],[i64 0,.sl 27 [],.sl 5 (seg2.map kG),.sl 1 []],[i64 0,.sl 27 [xP wVa],.sl 5 [],.sl 1 (byt2.map qX)],vo (xn 212),vo (xn 240),vo (xn 0),vo (xn 212),vo (xn 0)]:=rfl
theorem Wia:∀ {l:List Seg},l.map (·.to_)=[3600]->∃g:Seg,l=[g]/\g.to_=3600
 | [],h=>by simp at h
 | [g],h=>⟨g,rfl,by simpa using h⟩
 | a::b::l,h=>by simp at h
theorem X6a:∃g:Seg,seg2=[g]/\g.to_=3600:=by
 have h:=zrb
 generalize seg2=l at h⊢
 exact Wia h
theorem Wja{l:List Int}(h:decide (0<l.length)=true):decide (((l.map qX).length:Int)>0)=true:=by
 have:=of_decide_eq_true h
 rw[zb]
 exact decide_eq_true (by omega)
theorem QLa:∃(R:RowV × List Flg) (g:Seg) (a:List Int),an2.map vo=[vo (xn 0),vo (xn 0),vo (xn 130),vo (xn 0),vo (xn 211),[i64 0,.sl 27 [xP R],.sl 5 [],.sl 1 []],[i64 0,.sl 27 [],.sl 5 [kG g],.sl 1 []],[i64 0,.sl 27 [xP R],.sl 5 [],.sl 1 (a.map qX)],vo (xn 212),vo (xn 240),vo (xn 0),vo (xn 212),vo (xn 0)]/\R.1.total=1500/\g.to_=3600/\decide (((a.map qX).length:Int)>0)=true:=by
 obtain⟨g,c,b⟩:=X6a
 refine⟨wVa,g,byt2,?_,zqb,b,Wja X5a⟩
 rw[jwb,c]
 rfl
set_option maxHeartbeats 4000000 in
theorem xJb:xw Tryz.prog 25 [] (bl true):=λh=>by
 refine zj Tryz.f25 [.tmp 0] 198 rfl rfl rfl rfl rfl rfl (by decide) (⟨_,_,⟨rfl,rfl⟩,.refl⟩) λB=>?_
 simp only[go_sem]
 refine zg (pl2 _) ?_
 rintro _ l ⟨rfl,j⟩
 have k:=xDb h
 rw[<-j] at k
 have g:Pre h l:=⟨_,j,λo a=>by
  simp only[H2,zE,List.not_mem_nil,or_false] at a
  rcases a with rfl|rfl|rfl|rfl|rfl|rfl<;>rfl⟩
 have q:∀M,SIn (l++M) s2 (a2 h.length):=λM=>k.app M
 simp only[go_sem]
 refine zg (W7a _ s2 (a2 h.length) k jvb) ?_
 rintro _ e ⟨rfl,b⟩
 rw[b,if_pos ok2,if_pos ok2]
 clear b e
 have a:=(Q3 (h:=h) s2).ones
 simp only[go_sem,a]
 refine zg (xBb _ s2 jvb jZa (Qya s2) _ l2 (yW (ty:=79) (st:=0) (by rw[zK (k:=3) rfl];rfl)) (by decide) (by decide)) ?_
 rintro _ e ⟨rfl,b⟩
 rw[b,wR]
 clear b e
 simp only[go_sem,a]
 refine zg (W7a _ zS zA (xEb _) xFb) ?_
 rintro _ e ⟨rfl,b⟩
 obtain⟨R,p,n,d,c,f,i⟩:=QLa
 rw[b,okz,d]
 clear b e
 simp only[go_sem,a,Wga,zA,kW,vo,xn,xP,yX,List.map_nil,List.map_cons,List.cons_append,List.nil_append,c]
 simp only[bne_self_eq_false,beq_self_eq_true,qD,Bool.not_false,Bool.not_true,Vq,Yl]
 simp only[go_sem,a,Wga,zA,kW,vo,xn,xP,yX,List.map_nil,List.map_cons,List.cons_append,List.nil_append,c,f,i,bne_self_eq_false,beq_self_eq_true,qD,Bool.not_false,Bool.not_true]
 rw[show((((evs2.map evC).length:Nat):Int)==2)=true from rfl]
 simp only[Vq]
 simp only[go_sem,a,Wga,zA,kW,List.map_nil,List.length_nil,bne_self_eq_false,beq_self_eq_true,qD,Bool.not_false,Bool.not_true]
 obtain⟨L,m,_⟩:=g
 rw[m,zp]
 refine zm ?_<;>(simp only[go_sem]<;>try rfl)
end Go.Proofs.YtigdlmpjijhpaaaGreat.Ax
namespace Go.Proofs.YtigdlmpjijhpaaaGreat.Ax
open Go Go.RowKit Go.ChangeShapes Go.WideShapes
def W9a(r:List Int):Cm:=⟨km r 0,⟨km r 1,⟨km r 2,km r 3,km r 4,km r 5,km r 6,km r 7,km r 8,km r 9,km r 10,km r 11,km r 12⟩⟩,km r 13,km r 14,km r 15⟩
theorem ztb:∀ {r:List Int},r.length=16->r.map i64=V1 (W9a r)
 | [_,_,_,_,_,_,_,_,_,_,_,_,_,_,_,_],_=>rfl
def InCms(w:World)(v:Value):Prop:=∃(x:AV) (l:List Cm),AR (c0 w) x v/\SlOf [] x 16 (l.map V1)
section
variable {H:Type} {enc:TypeId × Value->H} {w:World} {base:Nat} {held:Bool}
theorem cms_in{b:Nat}{v:Value}{x:DataW H × List MemPlace}(h:DataW.trod enc Tryz.prog w base (λ_=>true) held b 61 [v]=some x):InCms w v:=by
 obtain⟨a,rows,j,c,d⟩:=X7a Tryz.underlying61 (n:=5) (by kernel_rfl) h
 have e:Tryz.prog.cellsOf 79=16:=by kernel_rfl
 rw[e] at c d
 rw[Q9 (f:=W9a) (g:=V1) ztb λr i=>(d r i).1] at c
 exact⟨a,_,j,c⟩
end
end Go.Proofs.YtigdlmpjijhpaaaGreat.Ax
namespace Go.Proofs.YtigdlmpjijhpaaaGreat.Ax
open Go Go.Proofs
set_option maxRecDepth 100000
theorem xLb:((70:Int) != 0)=true:=rfl
theorem lit_u8{n:Int}(h:(Lit.int .u8 n).wf=true):0<=n/\n<256:=by
 have h:(decide (IntKind.min .u8<=n) && decide (n<=IntKind.max .u8))=true:=h
 rw[zl,decide_eq_true_eq,decide_eq_true_eq] at h
 have b:IntKind.min .u8=0:=by decide
 have a:IntKind.max .u8=255:=by decide
 omega
abbrev bkO(s:Setup)(b:Bk):Ob:= .box 63 (wm s (frA s) (BX b) (BC b))
structure HasB (h H:List Ob) (s:Setup) (a:SA) (b:Bk):Prop where
 pre:Pre h H
 st:H[h.length]? =some (.box 30 (qd s a))
 bk:H[h.length+1]? =some (bkO s b)
end Go.Proofs.YtigdlmpjijhpaaaGreat.Ax
namespace Go.Proofs.YtigdlmpjijhpaaaGreat.Ax
open Go Go.RowKit
def PCalls(P:Program)(f:FuncId)(aZ:List AV)(h:List Ob)(R:AV->List Ob->Prop)(X:List PanicEntry->List Ob->Prop):Prop:=
 XQ P f=true/\∀(φ:Nat->Ob),Upto φ h.length->∀(B:Nat) (w:World) (g:Gh) (vs:List Value),HOk B w g (fill φ h)->B<=w.heap.size->ARs (ctx w g (fill φ h)) aZ vs->
  Calls P f vs.toArray w λe w'=>(∃v r h' g',e= .returned v/\R r h'/\ResK h h'/\Good B w g (fill φ h) w' g' (fill φ h')/\AR (ctx w' g' (fill φ h')) r v)∨
   ∃a h' g',e= .panicked a/\X a h'/\ResK h h'/\Good B w g (fill φ h) w' g' (fill φ h')
theorem PCalls.mono{P:Program}{f:FuncId}{aZ:List AV}{h:List Ob}{R j:AV->List Ob->Prop}{X X':List PanicEntry->List Ob->Prop}(c:PCalls P f aZ h R X)(k:∀r h',R r h'->j r h')(m:∀a h',X a h'->X' a h'):PCalls P f aZ h j X':=
 ⟨c.1,λφ l B w g vs a1 a2 a3=>(c.2 φ l B w g vs a1 a2 a3).mono λe w' q=>by
  rcases q with⟨v,r,h',g',i,b,d⟩|⟨a,h',g',i,b,d⟩
  ·exact .inl ⟨v,r,h',g',i,k _ _ b,d⟩
  ·exact .inr ⟨a,h',g',i,m _ _ b,d⟩⟩
def wYa(P:Program)(f:FuncId)(aZ:List AV)(h:List Ob)[k:Held (AV->List Ob->Prop)][x:Held (List PanicEntry->List Ob->Prop)]:Prop:=PCalls P f aZ h k.it x.it
theorem wS{P:Program}{f:FuncId}{aZ:List AV}{h:List Ob}{R K:AV->List Ob->Prop}{X Y:List PanicEntry->List Ob->Prop}(c:PCalls P f aZ h R X)(k:∀r h',R r h'->K r h')(y:∀a h',X a h'->Y a h'): @wYa P f aZ h ⟨K⟩ ⟨Y⟩:=c.mono k y
def zHa(P:Program)(x:AV)(aZ:List AV)(h:List Ob)[k:Held (AV->List Ob->Prop)][y:Held (List PanicEntry->List Ob->Prop)]:Prop:=match x with
 | .fn (.func f) a cs=>wYa P f (a++aZ++cs) h
 | _=>False
theorem X8a{P:Program}{f:FuncId}{a cs aZ:List AV}{h:List Ob}{k:AV->List Ob->Prop}{y:List PanicEntry->List Ob->Prop}: @zHa P (.fn (.func f) a cs) aZ h ⟨k⟩ ⟨y⟩= @wYa P f (a++aZ++cs) h ⟨k⟩ ⟨y⟩:=id rfl
def zIa(P:Program)(o:Oper)(Q:jF)(T:Env)(h:List Ob):Prop:=match qN o.op with
 | some (x,args)=> @zHa P (ev T x) (evl T args) h ⟨λr h'=>Q .normal (qW T o.dst r) h'⟩ ⟨λa h'=>Q (.panic a) T h'⟩
 | none=>False
section
variable {P:Program} {N:Nat} {B:Bs} {ops:Array Oper} {T:Env} {h:List Ob} {o:Oper} {Q:jF}
theorem zJa{φ:Nat->Ob}(U:Upto φ h.length)(Z:xc N o=true)(k:zIa P o Q T h){w:World}{g:Gh}{a:Act}(r:Rel N B w g (fill φ h) a T){Y:Exit->Act->World->Prop}
  (D:∀e C h' w' F,Q e C h'->Aft N B φ w g h C h' F w'->Y e F w'):o.wp P a w (Y .normal) Y:=by
 unfold zIa at k
 split at k
 ·rename_i X args u
  have c:∃aZ j,o.op= .call ⟨.value X,aZ,j⟩/\aZ.toList=args:=by
   unfold qN at u
   split at u
   ·rename_i X' aZ j I
    injection u with u
    injection u with h1 h2
    subst h1
    exact⟨aZ,j,I,h2⟩
   ·cases u
  obtain⟨aZ,j,c,has⟩:=c
  subst has
  unfold zHa at k
  split at k
  ·rename_i f W cs M
   obtain⟨k1,k2⟩:=k
   have E:=jL r.t X
   rw[M] at E
   obtain⟨us,vs,L,R,G⟩:=E
   have s:ARs (ctx w g (fill φ h)) (W++evl T aZ.toList++cs) (us.toList++aZ.toList.map a.eval++vs.toList):=xj (xj R (QB r.t _)) G
   have l:=k2 φ U B.b w g _ r.ok r.hB s
   have m:∃fn,P.funcs[f]? =some fn/\fn.name≠ "runtime.NumGoroutine" /\fn.body.isSome=true:=by
    unfold XQ at k1
    split at k1
    ·rename_i fn m
     simp only[zl,bne_iff_ne,ne_eq] at k1
     exact⟨fn,m,k1.1,k1.2⟩
    ·cases k1
   obtain⟨fn,K,O,J⟩:=m
   have f5:(fn.name== "runtime.NumGoroutine")=false:=by simpa using O
   have S:fn.body.isNone=false:=by cases V:fn.body<;>simp[V] at J⊢
   have x:(execOp a.eval o).run P w= .ok (.enter f (us.toList++aZ.toList.map a.eval++vs.toList).toArray) w:=by
    obtain⟨dst,op,type,pos,after,guard⟩:=o
    simp only at c
    subst c
    simp only[execOp,resolve,L,Deferred.ofValue,Sem.run_bind,Sem.run_pure,Result.andThen_ok,invoke,callFunc,run_program,K,S,f5,Bool.false_eq_true,if_false]
    simp
   unfold Oper.wp
   rw[x]
   refine Calls.mono l λe w' q=>?_
   rcases q with⟨v,rr,h',g',A,y,z,p,H⟩|⟨ch,h',g',A,y,z,p⟩
   ·subst A
    exact D _ _ _ _ _ y ⟨g',z,xU r p H Z,p⟩
   ·subst A
    exact D _ _ _ _ _ y ⟨g',z,⟨p.ok,p.size,λi=>AR.le p.le _ _ (r.t i),r.d,r.n⟩,p⟩
  ·exact k.elim
 ·exact k.elim
theorem Va{φ:Nat->Ob}{ops:Array Oper}{K:Env->List Ob->Prop}{tl:List Oper}:∀(l:List Oper),(l.all (xc N))=true->∀ {T:Env} {h:List Ob},Upto φ h.length->wpA P ops K l T h->∀ {w:World} {g:Gh} {a:Act},Rel N B w g (fill φ h) a T->
  ∀ {Q:Exit->Act->World->Prop},(∀C h' w' E,K C h'->Aft N B φ w g h C h' E w'->wpListIn Fence.wide 0 P ops Q tl E w')->wpListIn Fence.wide 0 P ops Q (l++tl) a w
 | [],_,T,h,_,k,w,g,a,r,Q,A=>A _ _ _ _ k (.refl r)
 | o::l,s,T,h,G,k,w,g,a,r,Q,A=>by
   rw[List.all_cons,zl] at s
   have i:WG P T h o (wpA P ops K l)->o.wpIn Fence.wide 0 P a w (wpListIn Fence.wide 0 P ops Q (l++tl)) Q:=λk=>
    XS 0 G s.1 k r λC h' w' E k' q=>by
     have U:=q.len
     obtain⟨g',S,O,R⟩:=q
     exact Va l s.2 (G.mono U) k' O λI M J a2 k2 F=>A _ _ _ _ k2 (F.trans S R)
   have f:wpA P ops K l (qW T o.dst (.v undef)) h->wpListIn Fence.wide 0 P ops Q (l++tl) (a.put o.dst undef) w:=λk=>
    Va l s.2 G k (xU r (Good.refl r.ok r.hB) (x:= .v undef) rfl s.1) λI M J a2 k2 F=>A _ _ _ _ k2 F
   unfold wpA at k
   rw[List.cons_append]
   unfold wpListIn
   split at k
   ·rename_i m
    rw[if_pos (by simp[Region.wanted,m])]
    exact(i k)
   ·rename_i j p m
    split at k
    ·rename_i d n
     have z:yielded ops a.tmps j=match a.tmps[d]? with|some (.bool b)=>some b|_=>none:=by
      simp only[yielded,n,Option.bind_some]
      rfl
     have c:=r.t d
     rw[zt] at c
     split at k
     ·rename_i b H
      rw[H] at c
      have c:(a.tmps[d]?).getD undef= .bool b:=c
      have L:a.tmps[d]? =some (.bool b):=by
       cases e:a.tmps[d]? with
       | none=>rw[e] at c;cases c
       | some u=>rw[e] at c;exact congrArg some c
      rw[L] at z
      by_cases y:b=p
      ·rw[if_pos (by simp[Region.wanted,m,z,y])]
       exact(i (k.1 y))
      ·rw[if_neg (by simp[Region.wanted,m,z,y])]
       exact⟨λ_ _=>trivial,f (k.2 y)⟩
     ·rename_i vs H
      rw[H] at c
      have c:(a.tmps[d]?).getD undef= .tuple vs:=c
      have D:yielded ops a.tmps j=none:=by
       rw[z]
       cases e:a.tmps[d]? with
       | none=>rfl
       | some u=>rw[e] at c;have:u= .tuple vs:=c;subst this;rfl
      rw[if_neg (by simp[Region.wanted,m,D])]
      exact⟨λ_ _=>trivial,f k⟩
     ·exact k.elim
    ·exact k.elim
theorem Qx{id:Nat}(l:List Oper)(o:Oper)(j:ops.toList=l++[o])(s:o.guard=none)(d:(ops.toList.all (xc N))=true)(k:wpR P ops (zIa P o Q) l T h):AWp P N B (.region id ops false) Q T h:=λφ i w g a r=>by
 rw[j,List.all_append,zl,List.all_cons,zl] at d
 refine(wpIn_wide (n:=0)).1 (wpIn_region ?_)
 rw[List.range_eq_range', <-qH,wpOpsIn_eq_wpListIn ops.toList 0 (by simp),j]
 refine Va l d.1 i (Wf _ k) r λc h' w' f k' q=>?_
 unfold wpListIn
 rw[if_pos (by simp[Region.wanted,s])]
 have b:=q.len
 obtain⟨g',y,t,x⟩:=q
 exact xQ 0 (zJa (Y:=λe f w'=>∃c h',Q e c h'/\Aft N B φ w g h c h' f w') (i.mono b) d.2.1 k' t λe p m z a2 v u=>⟨p,m,v,u.trans y x⟩)
end
section
variable {P:Program} {N:Nat} {B:Bs} {ops:Array Oper} {T:Env} {h:List Ob} {o:Oper} {Q:jF}
def zKa(ops:Array Oper)(o:Oper):Bool:=
 Zu ops 0 ops.toList && (xl o).all (λj=>decide (j<ops.size)) && (ops.toList.all λq=>q.guard.isNone) && o.guard.isNone &&
  (List.range ops.size).all λi=>(xl o).contains i || (List.range ops.size).any λj=>decide (i<j) && ((ops[j]?).map λq=>(xl q).contains i).getD false
def X9a(P:Program)(o:Oper)(Y:Exit->Act->World->Prop):Exit->Act->World->Prop
 | .normal,a,w=>o.wp P a w (Y .normal) Y
 | e,a,w=>Y e a w
theorem Kaa{q:Oper}{Y:Exit->Act->World->Prop}{a:Act}{w:World}{K K':Act->World->Prop}(b:∀a w,K a w->K' a w)(k:q.wp P a w K (X9a P o Y)):q.wp P a w K' Y:=by
 unfold Oper.wp at k⊢
 generalize (execOp a.eval q).run P w=r at k⊢
 cases r with
 | ok x w'=>
   cases x with
   | value v=>exact b _ _ k
   | skip=>exact b _ _ k
   | defer d=>exact b _ _ k
   | enter f ar=>exact Calls.mono k λe g q=>by cases e<;>first|exact b _ _ q|exact q
   | row s ar=>
     intro c cs
     obtain⟨v,g,h,i⟩:=k c cs
     exact⟨v,g,b _ _ h,i⟩
   | _=>first|exact k|exact k.elim
 | halt x w'=>
   cases x<;>first|exact k|exact k.elim
theorem Kba{Y:Exit->Act->World->Prop}(B:zKa ops o=true):∀(c:Nat) (listed:Array Bool),listed.size=ops.size->
  (∀(i:Nat) (q:Oper),ops[i]? =some q->listed.getD i false=true->∀j∈xl q,listed.getD j false=true)->
  ∀(a:Act) (w:World),wpAny P .any ops (X9a P o Y) c listed a w->wpAny P .any (ops.push o) Y (c+1) (listed.push false) a w:=by
 unfold zKa at B
 simp only[zl,zR,decide_eq_true_eq,qT,Bool.or_eq_true,List.any_eq_true,List.contains_eq_mem,Option.isNone_iff_eq_none] at B
 obtain⟨⟨⟨⟨C,D⟩,W⟩,O⟩,E⟩:=B
 have p:(ops.push o)[ops.size]? =some o:=by simp
 have x:∀ {i:Nat} {q:Oper},i<ops.size->((ops.push o)[i]? =some q↔ops[i]? =some q):=λ{i q} hi=>by
  rw[Array.getElem?_push,if_neg (by omega)]
 have L:∀(l:Array Bool) (i:Nat),l.size=ops.size->i<ops.size->(l.push false).getD i false=l.getD i false:=λl i b hi=>by
  rw[zt,zt,Array.getElem?_push,if_neg (by omega)]
 have S:∀(l:Array Bool) (i:Nat),l.size=ops.size->i<ops.size->(l.push false).getD i true=l.getD i true:=λl i b hi=>by
  rw[zt,zt,Array.getElem?_push,if_neg (by omega)]
 have same:∀(l:Array Bool) (i:Nat),l.size=ops.size->i<ops.size->l.getD i true=l.getD i false:=λl i b hi=>by
  rw[zt,zt,zW (by omega)]
  rfl
 have dlt:∀ {i:Nat} {q:Oper},ops[i]? =some q->∀j∈xl q,j<i:=λ{i q} f j d=>by
  have:=yE ops.toList 0 C i q (by rw[qr];exact f) j d
  omega
 have all:∀l:Array Bool,l.size=ops.size->Region.ready .any ops l=[]->∀i,i<ops.size->l.getD i false=true:=by
  intro l b z i hi
  cases s:l.getD i false
  ·exfalso
   obtain⟨n,⟨M,V⟩,G⟩:=least (J:=λn=>n<ops.size/\l.getD n false=false) ⟨i,hi,s⟩
   have:n∈Region.ready .any ops l:=Zx M (by rw[same l n b M];exact V) (zW M) λj d=>by
    have α:=dlt (zW M) j d
    cases Q:l.getD j false
    ·have:=G j ⟨by omega,Q⟩
     omega
    ·rfl
   rw[z] at this
   cases this
  ·rfl
 have done:∀l:Array Bool,l.size=ops.size->(∀(i:Nat) (q:Oper),ops[i]? =some q->l.getD i false=true->∀j∈xl q,l.getD j false=true)->(∀j∈xl o,l.getD j false=true)->∀k i,ops.size - i<=k->i<ops.size->l.getD i false=true:=by
  intro l b v U k
  induction k with
  | zero=>intro i g h;omega
  | succ k R=>
    intro i g h
    rcases E i h with hd|⟨j,d,y,Z⟩
    ·exact U i hd
    ·rw[zW d,Option.map_some,Option.getD_some,decide_eq_true_eq] at Z
     exact v j ops[j] (zW d) (R j (by omega) d) i Z
 have up:∀(l:Array Bool) (i:Nat),l.size=ops.size->i∈Region.ready .any ops l->i∈Region.ready .any (ops.push o) (l.push false):=by
  intro l i b hi
  obtain⟨g,h,q,f,y⟩:=jR hi
  refine Zx (by simp;omega) (by rw[S l i b g];exact h) ((x g).2 f) λj d=>?_
  have:=dlt f j d
  rw[L l j b (by omega)]
  exact y j d
 have down:∀(l:Array Bool) (i:Nat),l.size=ops.size->i<ops.size->i∈Region.ready .any (ops.push o) (l.push false)->i∈Region.ready .any ops l:=by
  intro l i b m hi
  obtain⟨g,h,q,f,y⟩:=jR hi
  have f:=(x m).1 f
  refine Zx m (by rw[<-S l i b m];exact h) f λj d=>?_
  have:=dlt f j d
  rw[<-L l j b (by omega)]
  exact y j d
 have t:∀l:Array Bool,l.size=ops.size->(∀i,i<ops.size->l.getD i false=true)->ops.size∈Region.ready .any (ops.push o) (l.push false):=λl b s=>
  Zx (by simp) (by rw[zt,Array.getElem?_push,if_pos b.symm];rfl) p λj d=>by
   have:=D j d
   rw[L l j b this]
   exact s j this
 have full:∀l:Array Bool,l.size=ops.size->(∀i,i<ops.size->l.getD i false=true)->Region.ready .any (ops.push o) ((l.push false).setIfInBounds ops.size true)=[]:=λl b s=>by
  rw[List.eq_nil_iff_forall_not_mem]
  intro i hi
  obtain⟨g,h,_⟩:=jR hi
  rw[Array.size_push] at g
  rw[zt,Array.getElem?_setIfInBounds] at h
  split at h
  ·rw[if_pos (by simp;omega)] at h
   cases h
  ·have:=s i (by omega)
   rw[<-zt,S l i b (by omega),same l i b (by omega),this] at h
   cases h
 have fin:∀(c:Nat) (l:Array Bool),l.size=ops.size->(∀i,i<ops.size->l.getD i false=true)->∀(a:Act) (w:World),X9a P o Y .normal a w->wpOp P (ops.push o) Y ops.size (wpAny P .any (ops.push o) Y c ((l.push false).setIfInBounds ops.size true)) a w:=by
  intro c l b s a w k
  unfold wpOp
  rw[p]
  simp only
  rw[if_pos (by simp[Region.wanted,O])]
  refine .inl (Oper.wp_mono (λa w q=>?_) k)
  have X:=full l b s
  cases c with
  | zero=>exact⟨X,q⟩
  | succ c=>exact⟨λ_=>q,λi hi=>by rw[X] at hi;cases hi⟩
 have H:∀(l:Array Bool) (i:Nat),l.size=ops.size->i<ops.size->(l.push false).setIfInBounds i true=(l.setIfInBounds i true).push false:=λl i b hi=>by
  refine Array.ext (by simp) λj g h=>?_
  have y:j<ops.size+1:=by simpa [b] using h
  rw[Array.getElem_setIfInBounds (by simp;omega),Array.getElem_push,Array.getElem_push]
  by_cases e:i=j
  ·subst e
   simp[b,hi]
  ·rw[if_neg e]
   split
   ·rename_i q
    rw[dif_pos (by simpa using q),Array.getElem_setIfInBounds (by omega),if_neg e]
   ·rename_i q
    rw[dif_neg (by simpa using q)]
 intro c
 induction c with
 | zero=>
   intro l b v a w ⟨k1,k2⟩
   have s:=all l b k1
   refine⟨λz=>?_,λi hi=>?_⟩
   ·have:=t l b s
    rw[z] at this
    cases this
   ·have m:=(jR hi).1
    rw[Array.size_push] at m
    rcases Nat.lt_or_ge i ops.size with g|g
    ·have:=down l i b g hi
     rw[k1] at this
     cases this
    ·have:i=ops.size:=by omega
     subst this
     exact fin 0 l b s a w k2
 | succ c R=>
   intro l b v a w ⟨k1,k2⟩
   refine⟨λz=>?_,λi hi=>?_⟩
   ·exfalso
    cases I:Region.ready .any ops l with
    | nil=>
      have:=t l b (all l b I)
      rw[z] at this
      cases this
    | cons i r=>
      have:=up l i b (by rw[I];exact .head _)
      rw[z] at this
      cases this
   ·have m:=(jR hi).1
    rw[Array.size_push] at m
    rcases Nat.lt_or_ge i ops.size with g|g
    ·have hid:=down l i b g hi
     obtain⟨_,h,q,f,y⟩:=jR hid
     have k3:=k2 i hid
     have T:q.guard=none:=W q (by rw[<-qr] at f;exact qi f)
     unfold wpOp at k3⊢
     rw[f] at k3
     rw[(x g).2 f]
     simp only at k3⊢
     rw[if_pos (by simp[Region.wanted,T])] at k3⊢
     have F:∀(K:Nat) (N:Oper),ops[K]? =some N->(l.setIfInBounds i true).getD K false=true->∀j∈xl N,(l.setIfInBounds i true).getD j false=true:=by
      intro K N u A j d
      rw[Qf (by omega)] at A⊢
      split
      ·rfl
      ·split at A
       ·rename_i e1
        subst e1
        rw[f] at u
        injection u with u
        subst u
        exact y j d
       ·exact v K N u A j d
     rcases k3 with k3|⟨k3,a1,w1,k4⟩
     ·refine .inl (Kaa (λa' w' k=>?_) k3)
      rw[H l i b g]
      exact R _ (by simp[b]) F a' w' k
     ·exact .inr ⟨k3,a1,w1,k4⟩
    ·have:i=ops.size:=by omega
     subst this
     obtain⟨_,_,q,f,y⟩:=jR hi
     rw[p] at f
     injection f with f
     subst f
     have s:∀i,i<ops.size->l.getD i false=true:=λi hi=>done l b v (λj d=>by
      have:=y j d
      rw[L l j b (D j d)] at this
      exact this) ops.size i (by omega) hi
     have z:Region.ready .any ops l=[]:=by
      rw[List.eq_nil_iff_forall_not_mem]
      intro i hi
      obtain⟨g,h,_⟩:=jR hi
      rw[same l i b g,s i g] at h
      cases h
     exact fin (c+1) l b s a w (k1 z)
theorem zLa{i:Nat}(b:∀(i:Nat) (q:Oper),ops[i]? =some q->q.guard=none)(hi:i<ops.size):ww P (ops.push o) T h i=ww P ops T h i:=by
 have e:(ops.push o)[i]? =ops[i]? :=by rw[Array.getElem?_push,if_neg (by omega)]
 have a:=b i _ (zW hi)
 unfold ww
 rw[e,zW hi]
 simp only[Z6,a]
theorem qha(a:∀(i:Nat) (q:Oper),ops[i]? =some q->q.guard=none):∀ {l:List Nat},(∀i∈l,i<ops.size)->(ju P (ops.push o) T h l↔ju P ops T h l):=λ{l} b=>by
 rw[jQ,jQ]
 exact⟨λk i hi=>by rw[<-zLa (o:=o) a (b i hi)];exact k i hi,λk i hi=>by rw[zLa a (b i hi)];exact k i hi⟩
def j8a(ops:Array Oper)(a:List Ent):Bool:=a.all λq=>decide (q.1<ops.size) && q.2.2.all λi=>decide (i<ops.size)
theorem k5a{b:Nat}{K:Env->List Ob->Prop}(d:∀(i:Nat) (q:Oper),ops[i]? =some q->q.guard=none):∀(a:List Ent),j8a ops a=true->∀ {T:Env} {h:List Ob},wpQ P (ops.push o) b K a T h->wpQ P ops b K a T h
 | [],_,_,_,k=>k
 | q::r,g,T,h,k=>by
   unfold j8a at g
   rw[List.all_cons,zl,zl,decide_eq_true_eq,zR] at g
   obtain⟨⟨m,c⟩,t⟩:=g
   have c:∀i∈q.2.2,i<ops.size:=λi hi=>by simpa using c i hi
   have n:∀ {T:Env} {h:List Ob},wpQ P (ops.push o) b K r T h->wpQ P ops b K r T h:=λk=>k5a d r t k
   have e:(ops.push o)[q.1]? =ops[q.1]? :=by rw[Array.getElem?_push,if_neg (by omega)]
   unfold wpQ at k⊢
   rw[e] at k
   rw[zW m] at k⊢
   have f:=d q.1 _ (zW m)
   have k:XC P (ops.push o) b q (wpQ P (ops.push o) b K r) T h ops[q.1]:=k
   show XC P ops b q (wpQ P ops b K r) T h ops[q.1]
   unfold XC at k⊢
   rw[f] at k⊢
   simp only at k⊢
   unfold Vt at k⊢
   split
   ·rename_i l
    rw[if_pos l] at k
    unfold Yv at k⊢
    split
    ·rename_i ob mk j
     rw[j] at k
     exact⟨k.1,n k.2⟩
    ·rename_i j
     rw[j] at k
     exact k
   ·rename_i l
    rw[if_neg l] at k
    exact ZVa (λT h ⟨s,p⟩=>⟨(qha d c).1 s,n p⟩) k
theorem wZa{id:Nat}(hm:P.follows .mixedOrders=true)(L:List Ob)(k:Nat)(c:List Ent)(hL:L=List.replicate k .res)(M:(ops.push o).toList.all (xc N)=true)(j:Jy ops k c=true)(b:zKa ops o=true)(l:j8a ops c=true)
  (V:wpQ P (ops.push o) h.length (zIa P o Q) c T (h++L)):AWp P N B (.region id (ops.push o) true) Q T h:=λφ J w g a r=>by
 have I:∀(i:Nat) (q:Oper),ops[i]? =some q->q.guard=none:=by
  intro i q p
  unfold zKa at b
  simp only[zl,zR,Option.isNone_iff_eq_none] at b
  exact b.1.1.2 q (by rw[<-qr] at p;exact qi p)
 have kk:=yka _ (hL▸k5a I c l V)
 rw[Array.toList_push,List.all_append,zl,List.all_cons,zl] at M
 simp only[Jy,zl,zR,decide_eq_true_eq,List.contains_eq_mem,qT] at j
 obtain⟨⟨⟨⟨⟨W,o2⟩,O⟩,o4⟩,o5⟩,u⟩:=j
 have m:=Good.drew (g:=g) r.ok r.hB
 have H:=J9 m.size k m.ok
 have A:=m.trans H
 have G:fill φ (h++List.replicate k .res)=fill φ h++List.replicate k .res:=jC J
 rw[<-G] at A
 have r':Rel N B w.drew g (fill φ (h++List.replicate k .res)) a T:=⟨A.ok,A.size,λi=>AR.le A.le _ _ (r.t i),r.d,r.n⟩
 refine wp_region_any hm ?_
 have R:Rest ops (Array.replicate ops.size false) c:=by
  refine⟨by simp,o5,λi hi=>?_,yx c W,λq p=>⟨k,O q p⟩,λi o E D=>?_⟩
  ·simp[zt,hi]
   have:=o4 i hi
   simpa using this
  ·have hi:i<ops.size:=by
    rcases Nat.lt_or_ge i ops.size with h|h
    ·exact h
    ·rw[Array.getElem?_eq_none h] at E;cases E
   simp[zt,hi] at D
 have C:Array.replicate (ops.push o).size false=(Array.replicate ops.size false).push false:=by
  rw[Array.size_push, <-Array.replicate_succ]
 rw[Array.size_push, <-Array.size_push (xs:=ops) (v:=o),C,Array.size_push]
 refine Kba b ops.size (Array.replicate ops.size false) (by simp) (λi q p D=>?_) _ _ ?_
 ·exfalso
  rw[zt,Array.getElem?_replicate] at D
  split at D<;>cases D
 refine Vs (K:=zIa P o Q) J o2 M.1 ops.size _ c u R (by simp) (λq p o E Z=>?_) kk r' λF h' w' g' S k' rr r2 q=>?_
 ·obtain⟨o',f,_,_,X,_⟩:=yF (O q p)
  rw[E] at f
  injection f with f
  subst f
  have:=X Z
  rw[zQ (by omega),Nat.add_sub_cancel_left,List.getElem?_replicate,if_pos this]
 ·have z:ResK h h':=λi hi=>by
   have x:=(zd.1 hi).1
   exact rr i x (by rw[zH x];exact hi)
  have y:=A.trans q
  have s:h.length<=h'.length:=yB y
  exact zJa (Y:=λe S w'=>∃F h',Q e F h'/\Aft N B φ w g h F h' S w') (J.mono s) M.2.1 k' r2 λe U h2 w2 a2 z1 z2=>⟨U,h2,z1,z2.trans z y⟩
end
def jxb(P:Program)(rs:List ResultVar)(h:List Ob)(R:AV->List Ob->Prop)(X:List PanicEntry->List Ob->Prop):jF
 | .normal,T,h' | .ret,T,h'=>∃r,Z5 P T h' rs=some r/\(R r h'∨∃a L,h'=a++L/\a.length=h.length/\r.lt a.length=true/\KeepLt h a/\R r a)
 | .panic b,_,h'=>X b h'
 | _,_,_=>False
section
variable {P:Program} {N:Nat} {B:Bs} {T:Env} {h:List Ob} {R:AV->List Ob->Prop} {X:List PanicEntry->List Ob->Prop}
theorem V4{φ:Nat->Ob}{rs:List ResultVar}{r:AV}(k:Z5 P T h rs=some r):Z5 P T (fill φ h) rs=some r:=by
 unfold Z5 at k⊢
 obtain⟨xs,a,b⟩:=Option.map_eq_some_iff.1 k
 rw[Jt rs a]
 exact congrArg some b
theorem V5{f:FuncId}(fn:Func){c:Code}{ar:List AV}(rs:List ResultVar)(N:Nat)(J:P.funcs[f]? =some fn)(Q:fn.body=some c)(K:fn.ntmps=N)(q:fn.results.toList=rs)(E:ar.length.ble N=true)(s:XQ P f=true)
  (k:∀B,AWp P N B c (jxb P rs h R X) (nth ar) h):PCalls P f ar h R X:=by
 subst K q
 have E:=qC E
 refine⟨s,λφ A B w g vs F hB a=>?_⟩
 have D:=vB a
 refine calls_of_wp J Q ?_
 have n:Rel fn.ntmps ⟨B,[]⟩ w g (fill φ h) { tmps:=vs.toArray++Array.replicate (fn.ntmps - vs.toArray.size) undef,defers:=[] } (nth ar):=by
  refine⟨F,hB,λi=>?_,rfl,by simp;omega⟩
  by_cases hi:i<ar.length
  ·obtain⟨u,m,o⟩:=wg a i hi
   have:(vs.toArray++Array.replicate (fn.ntmps - vs.toArray.size) undef).getD i undef=u:=by
    rw[zt,Array.getElem?_append_left (by simp;omega)]
    simp[m]
   simp only[this]
   exact o
  ·rw[WU (by omega)]
   trivial
 refine wp_mono (k ⟨B,[]⟩ φ A w g _ n) λe G w' ⟨H,h',m,g',x,o,l⟩=>?_
 have fin:(∃r,Z5 P H h' fn.results.toList=some r/\(R r h'∨∃b L,h'=b++L/\b.length=h.length/\r.lt b.length=true/\KeepLt h b/\R r b))->G.defers=[]/\∃v,(results fn G.tmps).run P w'= .ok v w'/\((∃v' r h' g',Ending.returned v= .returned v'/\R r h'/\ResK h h'/\Good B w g (fill φ h) w' g' (fill φ h')/\AR (ctx w' g' (fill φ h')) r v')∨
   ∃p h' g',Ending.returned v= .panicked p/\X p h'/\ResK h h'/\Good B w g (fill φ h) w' g' (fill φ h')):=by
  rintro ⟨r,S,y⟩
  obtain⟨v,O,z⟩:=WV (fn:=fn) l.ok l.size o.t (V4 S)
  refine⟨o.d,v,O,.inl ?_⟩
  rcases y with y|⟨b,L,rfl,p1,p2,I,M⟩
  ·exact⟨v,r,h',g',rfl,y,x,l,z⟩
  ·have C:Upto φ b.length:=A.mono (by omega)
   rw[jC C] at l z
   refine⟨v,r,b,g',rfl,M,λi hi=>?_,l.drop (by rw[q9,q9,p1]) ?_,AR.less (xD w' g' (fill φ b) L) _ _ (by rw[q9];exact p2) z⟩
   ·have:=x i hi
    rw[zH (by rw[p1];exact(zd.1 hi).1)] at this
    exact this
   ·rw[q9]
    have j:=F.ids
    rw[q9] at j
    exact I φ A j
 cases e with
 | normal=>exact fin m
 | ret=>exact fin m
 | panic p=>exact⟨o.d,.inr ⟨p,h',g',rfl,m,x,l⟩⟩
 | _=>exact m.elim
theorem Kj{Q:jF}{id ty it c b t3:Nat}{p1 p2 m:String}{a1 a2 a3:Array Edge}(u:∀w,(Instr.build ty #[]).run P w= .ok (.agg #[]) w)(y:∀w,(Instr.makeInterface ty (.agg #[])).run P w= .ok (.iface ty (.agg #[])) w)(l:c<N)(i:b<N)
  (k:Q (.panic [{ v:= .iface ty (.agg #[]),recovered:=false }]) (upd (upd T c (.v (.agg #[]))) b (.v (.iface ty (.agg #[])))) h):
  AWp P N B (.region id #[⟨some c,.build ty #[],ty,p1,a1,none⟩,⟨some b,.makeInterface ty (.tmp c),it,p2,a2,none⟩,⟨none,.panic (.tmp b),t3,m,a3,none⟩] false) Q T h:=λφ z w g a r=>by
 have j:c<a.tmps.size:=by rw[r.n];exact l
 have t:b<a.tmps.size:=by rw[r.n];exact i
 refine(wpIn_wide (n:=0)).1 (wpIn_region_list ?_)
 unfold wpListIn
 rw[if_pos (by simp[Region.wanted])]
 refine xQ 0 (kT (w':=w) (v:= .agg #[]) (by simp[execOp,u]) ?_)
 unfold wpListIn
 rw[if_pos (by simp[Region.wanted])]
 obtain⟨a1,e⟩:∃a1:Act,a1=a.put (some c) (.agg #[]):=⟨_,rfl⟩
 have f:Rel N B w g (fill φ h) a1 (upd T c (.v (.agg #[]))):=by
  rw[e]
  exact xU (o:=⟨some c,.build ty #[],ty,p1, #[],none⟩) r (Good.refl r.ok r.hB) (x:= .v (.agg #[])) rfl (by simpa [xc] using l)
 have v1:a1.eval (.tmp c)= .agg #[]:=by
  rw[e]
  simp[Act.eval,Act.put,j]
 rw[<-e]
 refine xQ 0 (kT (w':=w) (v:= .iface ty (.agg #[])) (by simp[execOp,v1,y]) ?_)
 obtain⟨a2,d⟩:∃a2:Act,a2=a1.put (some b) (.iface ty (.agg #[])):=⟨_,rfl⟩
 have q:Rel N B w g (fill φ h) a2 (upd (upd T c (.v (.agg #[]))) b (.v (.iface ty (.agg #[])))):=by
  rw[d]
  exact xU (o:=⟨some b,.build ty #[],ty,p1, #[],none⟩) f (Good.refl f.ok f.hB) (x:= .v (.iface ty (.agg #[]))) rfl (by simpa [xc] using i)
 have p:a2.eval (.tmp b)= .iface ty (.agg #[]):=by
  have:b<a1.tmps.size:=by rw[f.n];exact i
  rw[d]
  simp[Act.eval,Act.put,this]
 rw[<-d]
 unfold wpListIn
 rw[if_pos (by simp[Region.wanted])]
 refine xQ 0 ?_
 unfold Oper.wp
 have:(execOp a2.eval ⟨none,.panic (.tmp b),t3,m,a3,none⟩).run P w= .halt (.panic (.iface ty (.agg #[]))) w:=by
  have s:(Instr.panic (.iface ty (.agg #[]))).run P w= .halt (.panic (.iface ty (.agg #[]))) w:=rfl
  simp[execOp,p,s]
 rw[this]
 exact⟨_,h,k,.refl q⟩
theorem jba{Q:jF}{id ty it a b t3:Nat}{p1 p2 f:String}{a1 a2 a3:Array Edge}(g:∀w,(Instr.build ty #[]).run P w= .ok (.agg #[]) w)(i:∀w,(Instr.makeInterface ty (.agg #[])).run P w= .ok (.iface ty (.agg #[])) w)(d:a<N)(c:b<N)
  (k:∀e,Q (.panic [{ v:= .iface ty (.agg #[]),recovered:=false }]) e h):
  AWp P N B (.region id #[⟨some a,.build ty #[],ty,p1,a1,none⟩,⟨some b,.makeInterface ty (.tmp a),it,p2,a2,none⟩,⟨none,.panic (.tmp b),t3,f,a3,none⟩] false) Q T h:=Kj g i d c (k _)
theorem w0a{dst:Option Tmp}{x:Operand}{args:Array Operand}{a:Array TypeId}{ty:TypeId}{pos:String}{after:Array Edge}{b:Option (Nat × Bool)}{Q:jF}:
  zIa P ⟨dst,.call ⟨.value x,args,a⟩,ty,pos,after,b⟩ Q T h= @zHa P (ev T x) (evl T args.toList) h ⟨λr h'=>Q .normal (qW T dst r) h'⟩ ⟨λc h'=>Q (.panic c) T h'⟩:=id rfl
theorem zMa{id:Nat}{ops:Array Oper}{Q:jF}(l:List Oper)(o:Oper)(m:ops.toList=l++[o])(i:P.follows .mixedOrders=true)(L:List Ob)(k:Nat)(a:List Ent)(f:L=List.replicate k .res)(j:ops.toList.all (xc N)=true)(d:Jy l.toArray k a=true)(c:zKa l.toArray o=true)(b:j8a l.toArray a=true)
  (g:wpQ P ops h.length (zIa P o Q) a T (h++L)):AWp P N B (.region id ops true) Q T h:=by
 have e:ops=l.toArray.push o:=by
  apply Array.ext'
  rw[m]
  simp
 subst e
 exact wZa i L k a f j d c b g
end
attribute [go_sem] w0a X8a
end Go.Proofs.YtigdlmpjijhpaaaGreat.Ax
namespace Go.Proofs.YtigdlmpjijhpaaaGreat.Ax
open Go Go.Proofs
set_option maxRecDepth 100000
def nd(n:Nat):Nat:=(Go.Lib.bitLen n+7) / 8
theorem yXa:nd 0=0:=by decide
theorem Wna(n:Nat)(h0:n≠0)(h:n<18446744073709551616):nd n=nd (n / 256)+1:=by
 by_cases c:n<256
 ·have d:n / 256=0:=by omega
  rw[d,yXa]
  have a:=Go.Lib.bitLen_le8 ⟨n,c⟩
  have b:1<=Go.Lib.bitLen n:=by have:=Go.Lib.bitLen_half n h0 h;omega
  unfold nd
  simp only at a
  omega
 ·have:=Go.Lib.bitLen_shift8 n (by omega) h
  unfold nd
  omega
theorem Woa:∀n,n<18446744073709551616->n<256 ^ nd n:=by
 intro n
 induction n using Nat.strongRecOn with
 | _ n a=>
   intro h
   by_cases h0:n=0
   ·subst h0;rw[yXa];simp
   ·have b:=a (n / 256) (by omega) (by omega)
    rw[Wna n h0 h,Nat.pow_succ]
    omega
theorem jyb(n:Nat)(h:n<18446744073709551616):nd n<=8:=by
 have:=Go.Lib.bitLen_le n 64 (by omega) (by omega)
 unfold nd
 omega
theorem Kca{n:Nat}(h:n<=9223372036854775807):jE (n:Int)=(nd n:Int):=by
 have a:IntKind.wrap .u64 (n:Int)=n:=by rw[IntKind.wrap_u64];omega
 have b:=Go.Lib.bitLen_le n 64 (by omega) (by omega)
 unfold jE nd
 rw[a,Int.toNat_natCast,qp (n:=(Go.Lib.bitLen n:Int)+7) (by unfold Fit;omega),Int.tdiv_eq_ediv_of_nonneg (by omega),qp (by unfold Fit;omega)]
 omega
def By(l:List Int):Prop:=∀c∈l,0<=c/\c<256
def wt(l:List Int):Int:=l.foldl (λa c=>a*256+c) 0
theorem Kda(l:List Int):∀a:Int,l.foldl (λa c=>a*256+c) a=a*256 ^ l.length+wt l:=by
 induction l with
 | nil=>intro a;simp[wt]
 | cons c l b=>
   intro a
   have e:=b (a*256+c)
   have d:=b (0*256+c)
   show l.foldl _ (a*256+c)=a*256 ^ (l.length+1)+l.foldl _ (0*256+c)
   rw[e,d,Int.pow_succ]
   grind
theorem zNa(c:Int)(l:List Int):wt (c::l)=c*256 ^ l.length+wt l:=by
 have:=Kda l (0*256+c)
 show l.foldl _ (0*256+c)=_
 rw[this]
 simp
theorem Kea(l:List Int)(c:Int):wt (l++[c])=wt l*256+c:=by simp[wt]
theorem By.tail{c:Int}{l:List Int}(h:By (c::l)):By l:=λx a=>h x (.tail _ a)
theorem By.take{l:List Int}(h:By l)(n:Nat):By (l.take n):=λx a=>h x (List.mem_of_mem_take a)
theorem By.drop{l:List Int}(h:By l)(n:Nat):By (l.drop n):=λx a=>h x (List.mem_of_mem_drop a)
theorem j9a:∀ {l:List Int},By l->0<=wt l/\wt l<256 ^ l.length
 | [],_=>⟨by decide,by decide⟩
 | c::l,h=>by
   obtain⟨e,d⟩:=j9a h.tail
   obtain⟨a,g⟩:=h c (.head _)
   have f:(0:Int)<256 ^ l.length:=Int.pow_pos (by decide)
   have i:0<=c*256 ^ l.length:=Int.mul_nonneg a (by omega)
   have b:c*256 ^ l.length<=255*256 ^ l.length:=Int.mul_le_mul_of_nonneg_right (by omega) (by omega)
   rw[zNa,List.length_cons,Int.pow_succ]
   omega
theorem Xs(n j:Nat)(c:j<=8):Qs (n:Int) j=((n / 256 ^ j % 256:Nat):Int):=by
 have a:(256:Nat) ^ j=2 ^ (8*j):=by rw[show(256:Nat)=2 ^ 8 from rfl, <-Nat.pow_mul]
 have b:min (8*j) 64=8*j:=by omega
 unfold Qs
 rw[b,a,IntKind.wrap_u8]
 have:((n:Int).fdiv (2 ^ (8*j)))=((n / 2 ^ (8*j):Nat):Int):=by
  rw[Int.fdiv_eq_ediv_of_nonneg _ (Int.le_of_lt (Int.pow_pos (by decide)))]
  norm_cast
 rw[this]
 norm_cast
theorem k6a(n:Nat):∀k,k<=9->wt (xC (n:Int) k)=((n % 256 ^ k:Nat):Int)
 | 0,_=>by simp[xC,wt,Nat.mod_one]
 | k+1,a=>by
   rw[xC,zNa,wE,k6a n k (by omega),Xs n k (by omega),Nat.pow_succ,Nat.mod_mul]
   norm_cast
   rw[Nat.mul_comm,Nat.add_comm]
theorem k7a(a b:Nat):∀(k j:Nat),j<=k->k<=8->xC ((a*256 ^ k+b:Nat):Int) j=xC (b:Int) j
 | k,0,_,_=>rfl
 | k,j+1,g,f=>by
   rw[xC,xC,k7a a b k j (by omega) f,Xs _ j (by omega),Xs _ j (by omega)]
   have e:a*256 ^ k=256 ^ j*(a*256 ^ (k - j)):=by
    rw[<-Nat.mul_assoc,Nat.mul_comm _ a,Nat.mul_assoc, <-Nat.pow_add,show j+(k - j)=k by omega]
   have d:(a*256 ^ k+b) / 256 ^ j=a*256 ^ (k - j)+b / 256 ^ j:=by
    rw[e,Nat.mul_add_div (Nat.pow_pos (by decide))]
   have c:a*256 ^ (k - j) % 256=0:=by
    rw[show k - j=(k - j - 1)+1 by omega,Nat.pow_succ, <-Nat.mul_assoc,Nat.mul_mod_left]
   rw[d,Nat.add_mod,c,Nat.zero_add,Nat.mod_mod]
theorem k8a:∀ {l:List Int},By l->l.length<=8->xC (wt l) l.length=l
 | [],_,_=>rfl
 | c::l,h,i=>by
   obtain⟨f,d⟩:=j9a h.tail
   obtain⟨g,j⟩:=h c (.head _)
   rw[List.length_cons] at i
   obtain⟨C,rfl⟩:=Int.eq_ofNat_of_zero_le g
   obtain⟨V,b⟩:=Int.eq_ofNat_of_zero_le f
   have e:V<256 ^ l.length:=by rw[b] at d;exact_mod_cast d
   have a:wt ((C:Int)::l)=((C*256 ^ l.length+V:Nat):Int):=by rw[zNa,b];norm_cast
   rw[a,List.length_cons,xC,k7a C V l.length l.length (zn _) (by omega), <-b,k8a h.tail (by omega),Xs _ _ (by omega)]
   have:(C*256 ^ l.length+V) / 256 ^ l.length % 256=C:=by
    rw[Nat.mul_comm,Nat.mul_add_div (Nat.pow_pos (by decide)),Nat.div_eq_of_lt e,Nat.add_zero,Nat.mod_eq_of_lt (by omega)]
   rw[this]
def tkI:List Int->Option (Int × List Int)
 | []=>none
 | m::r=>if m<=8/\m<(r.length:Int)+1/\0<=wr (wt (r.take m.toNat))/\jE (wr (wt (r.take m.toNat)))=m then some (wr (wt (r.take m.toNat)),r.drop m.toNat) else none
theorem Kfa{n:Int}(h0:0<=n)(i:n<=9223372036854775807)(rest:List Int):tkI (jb n++rest)=some (n,rest):=by
 obtain⟨N,rfl⟩:=Int.eq_ofNat_of_zero_le h0
 have c:N<=9223372036854775807:=by omega
 have a:=Kca c
 have j:=jyb N (by omega)
 have f:=Woa N (by omega)
 have d:IntKind.wrap .u8 (jE (N:Int))=(nd N:Int):=by rw[a,IntKind.wrap_u8];omega
 have h:=wE (N:Int) (nd N)
 unfold jb
 rw[d,a,Int.toNat_natCast,List.cons_append,tkI]
 have g:(xC (N:Int) (nd N)++rest).take (nd N)=xC (N:Int) (nd N):=by rw[qO (by omega),List.take_of_length_le (by omega)]
 have e:(xC (N:Int) (nd N)++rest).drop (nd N)=rest:=by rw[List.drop_append_of_le_length (by omega),List.drop_of_length_le (by omega),List.nil_append]
 have b:wr (wt (xC (N:Int) (nd N)))=(N:Int):=by
  rw[k6a N _ (by omega),Nat.mod_eq_of_lt f,qp (by unfold Fit;omega)]
 rw[Int.toNat_natCast,g,e,b,a,if_pos]
 rw[ze,h]
 exact⟨by omega,by omega,by omega,rfl⟩
theorem k9a{b:List Int}(e:By b){n:Int}{rest:List Int}(h:tkI b=some (n,rest)):b=jb n++rest/\(0<=n/\n<=9223372036854775807)/\By rest:=by
 cases b with
 | nil=>cases h
 | cons m r=>
   rw[tkI] at h
   split at h
   ·rename_i s
    obtain⟨u,v,k,d⟩:=s
    injection h with h
    injection h with e1 e2
    have q:=e m (.head _)
    obtain⟨M,rfl⟩:=Int.eq_ofNat_of_zero_le q.1
    rw[Int.toNat_natCast] at e1 e2 k d
    have hB:By (r.take M):=e.tail.take M
    have l:(r.take M).length=M:=by rw[qa];omega
    obtain⟨v1,o⟩:=j9a hB
    rw[l] at o
    have c:M<=8:=by omega
    have t:(256:Int) ^ M<=18446744073709551616:=by
     have g:(256:Nat) ^ M<=256 ^ 8:=Nat.pow_le_pow_right (by decide) c
     have p:(256:Nat) ^ 8=18446744073709551616:=by decide
     rw[p] at g
     have j:=Int.ofNat_le.2 g
     rw[Int.natCast_pow] at j
     exact j
    have f:wr (wt (r.take M))=wt (r.take M):=by
     have:wr (wt (r.take M))=IntKind.wrap .i64 (wt (r.take M)):=rfl
     rw[this,IntKind.wrap_i64] at k⊢
     omega
    have a:wt (r.take M)<=9223372036854775807:=by
     rw[<-f]
     exact(ku _).2
    rw[f] at e1 d
    subst e1 e2
    refine⟨?_,⟨v1,a⟩,e.tail.drop M⟩
    have i:=k8a hB (by omega)
    rw[l] at i
    unfold jb
    rw[d,Int.toNat_natCast,i,List.cons_append,qL]
    congr 1
    rw[IntKind.wrap_u8];omega
   ·exact absurd h (by simp)
end Go.Proofs.YtigdlmpjijhpaaaGreat.Ax
namespace Go.Proofs.YtigdlmpjijhpaaaGreat.Ax
open Go Go.RowKit
section
variable {P:Program} {N:Nat} {B:Bs} {T:Env} {h:List Ob} {Q:jF}
def jca(l:Nat)(J:Env->List Ob->Prop)(Q:jF):jF:=λe T h=>match e with
 | .goto l'=>l'=l/\J T h
 | e=>Q e T h
theorem Wpa{l:Nat}{J:Env->List Ob->Prop}:jca l J Q .normal T h=Q .normal T h:=id rfl
theorem Wqa{l:Nat}{J:Env->List Ob->Prop}:jca l J Q .ret T h=Q .ret T h:=id rfl
theorem Wra{l i:Nat}{J:Env->List Ob->Prop}:jca l J Q (.exit i) T h=Q (.exit i) T h:=id rfl
theorem Wsa{l l':Nat}{J:Env->List Ob->Prop}:jca l J Q (.goto l') T h=(l'=l/\J T h):=id rfl
theorem Xt{l:Nat}(k:Q (.goto l) T h): @yD P N B ⟨(.goto l,Q)⟩ T h:=λφ b w g a r=>wp_goto ⟨T,h,k,.refl r⟩
theorem qia{c rest:Code}(l:Nat)(J:Env->List Ob->Prop)(t:findLabel c l=some rest)(i:okC N c=true)(f:okC N rest=true)(first:wpC P N B c (jca l J Q) T h)
  (pass:∀T h,J T h->wpC P N B rest (KV Q) T h): @yD P N B ⟨(.scope c,Q)⟩ T h:=λφ o w g a r=>by
 refine wp_scope_jumps l (λj w'=>∃b h',J b h'/\Aft N B φ w g h b h' j w') (λ_ _=>0) t ?_ ?_
 ·refine wp_mono (qn c i first φ o w g a r) λe j w' ⟨b,h',d,n⟩=>?_
  cases e<;>first
   | exact⟨b,h',d,n⟩
   | exact⟨d.1,b,h',d.2,n⟩
 ·rintro a1 x ⟨u,q,p,d⟩
  have A:=d.len
  obtain⟨s,z,v,y⟩:=d
  refine wp_mono (qn rest f (pass u q p) φ (o.mono A) x s a1 v) λe j w' ⟨b,h',m,k⟩=>?_
  have k:=k.trans z y
  cases e<;>first
   | exact⟨b,h',m,k⟩
   | exact m.elim
end
attribute [go_sem] Wpa Wqa Wra Wsa
end Go.Proofs.YtigdlmpjijhpaaaGreat.Ax
namespace Go.Proofs.YtigdlmpjijhpaaaGreat.Ax
open Go Go.Proofs
set_option maxRecDepth 100000
theorem Wta(v c:Int)(g:0<=c/\c<256):((BitVec.ofInt 64 (IntKind.wrap .i64 (v*2 ^ 8)) ||| BitVec.ofInt 64 c).toNat:Int) % 18446744073709551616=(v*256+c) % 18446744073709551616:=by
 obtain⟨C,rfl⟩:=Int.eq_ofNat_of_zero_le g.1
 have d:C<256:=by omega
 have f:(BitVec.ofInt 64 (IntKind.wrap .i64 (v*2 ^ 8))).toNat=256*((v % 72057594037927936).toNat):=by
  rw[BitVec.toNat_ofInt,IntKind.wrap_i64]
  omega
 have e:(BitVec.ofInt 64 (C:Int)).toNat=C:=by
  rw[BitVec.toNat_ofInt]
  omega
 rw[BitVec.toNat_or,f,e]
 have a:=Nat.two_pow_add_eq_or_of_lt (i:=8) (b:=C) d ((v % 72057594037927936).toNat)
 rw[show(2:Nat) ^ 8=256 from rfl] at a
 rw[<-a]
 omega
theorem Wua(v c:Int)(a:0<=c/\c<256):IntKind.wrap .i64 ((BitVec.ofInt 64 (IntKind.wrap .i64 (v*2 ^ 8)) ||| BitVec.ofInt 64 c).toNat:Int)=IntKind.wrap .i64 (v*256+c):=by
 have:=Wta v c a
 generalize ((BitVec.ofInt 64 (IntKind.wrap .i64 (v*2 ^ 8)) ||| BitVec.ofInt 64 c).toNat:Int)=X at this⊢
 rw[IntKind.wrap_i64,IntKind.wrap_i64]
 omega
theorem Wva(v c:Int):IntKind.wrap .i64 (IntKind.wrap .i64 v*256+c)=IntKind.wrap .i64 (v*256+c):=by
 rw[IntKind.wrap_i64,IntKind.wrap_i64,IntKind.wrap_i64]
 omega
theorem w1a{h:List Ob}{x:AV}{e i n:Nat}{xs:List (List AV)}(k:SlOf h x e xs)(b:i+n<=xs.length):SlOf h (.vw x e i n) e ((xs.drop i).take n):=by
 refine⟨?_,λa=>?_⟩
 ·rw[kP,k.rows,Option.bind_some,if_pos]
  refine⟨b,?_⟩
  by_cases h0:n=0
  ·exact .inl h0
  ·exact .inr (k.at (i:=0) (by omega))
 ·rw[Z7,k.at (i:=0) (by
   cases xs with
   | nil=>simp at a
   | cons _ _=>simp),Option.bind_some,if_pos rfl]
theorem Kga(l:List Int):((l.map qX).all λr=>r.length==1 && r.all AV.one)=true:=by
 rw[zR];intro q a;obtain⟨c,_,rfl⟩:=zw.1 a;rfl
def tkV(b:List Int):AV:=match tkI b with
 | some (n,r)=> .tup [i64 n,.sl 1 (r.map qX),i64 0]
 | none=> .tup [i64 0,.v (.slice none 0 0),i64 50]
theorem Qy{b:List Int}(h:tkI b=none):tkV b= .tup [i64 0,.v (.slice none 0 0),i64 50]:=by unfold tkV;rw[h]
theorem zOa{b:List Int}{n:Int}{r:List Int}(h:tkI b=some (n,r)):tkV b= .tup [i64 n,.sl 1 (r.map qX),i64 0]:=by unfold tkV;rw[h]
theorem Kha{c:Int}(h:0<=c/\c<256):IntKind.wrap .i64 c=c:=qp (n:=c) (by unfold Fit;omega)
set_option maxHeartbeats 4000000 in
theorem jzb(h:List Ob)(x:AV)(b:List Int)(E:SlOf h x 1 (b.map qX))(hb:By b)(hl:b.length<1099511627776):
  ACalls Tryz.prog 108 [x] h λr h'=>r=tkV b/\h'=h:=by
 have O:=E.one
 have D:=E.rows
 refine zj Tryz.f108 [.tmp 2,.tmp 3,.tmp 4] 55 rfl rfl rfl rfl rfl rfl (by decide) (⟨_,_,⟨rfl,rfl⟩,.refl⟩) λB=>?_
 simp only[go_sem,O]
 refine qia 0 (λT h'=>h'=h/\tkI b=none) rfl (by decide) (by decide) ?_ ?_
 ·simp only[go_sem,D,zb]
  cases b with
  | nil=>
    simp only[go_sem,List.length_nil,beq_self_eq_true]
    refine Xt ?_
    exact⟨rfl,rfl,rfl⟩
  | cons m r=>
    have Z:=hb m (.head _)
    have S:=hb.tail
    have F:=E.at (i:=0) (by simp)
    have h0:((((r.length+1:Nat)):Int)==0)=false:=by simp;omega
    rw[List.length_cons] at hl
    have A:=Kha Z
    have l:(0:Int)<((r.length+1:Nat):Int):=by omega
    have C:((m::r).map qX)[0]? =some (qX m):=rfl
    have fail:∀T,tkI (m::r)=none-> @yD Tryz.prog 55 B ⟨(.goto 0,jca 0 (λT h'=>h'=h/\tkI (m::r)=none) (xAa Tryz.prog [.tmp 2,.tmp 3,.tmp 4] h λR h'=>R=tkV (m::r)/\h'=h))⟩ T h:=λT z=>Xt ⟨rfl,rfl,z⟩
    simp only[go_sem,h0,D,F,C,l,A,qX,List.length_cons,zb,Int.toNat_natCast,zh]
    cases I:decide (m>8)
    ·cases J:decide (m≥((r.length+1:Nat):Int))
     ·simp only[go_sem,I,J,h0,D,F,C,l,A,qX,qD,List.length_cons,zb,Int.toNat_natCast,zh]
      have ζ:=of_decide_eq_false I
      have η:=of_decide_eq_false J
      obtain⟨M,rfl⟩:=Int.eq_ofNat_of_zero_le Z.1
      have δ:M<=8:=by omega
      have γ:M<=r.length:=by omega
      have Y:((1:Int)<=((r.length+1:Nat):Int))=True:=eq_true (by omega)
      have hv:SlOf h (.vw x 1 1 r.length) 1 (r.map qX):=by
       have z:=w1a (i:=1) (n:=r.length) E (by rw[zb,List.length_cons];omega)
       rwa[show((((M:Int)::r).map qX).drop 1).take r.length=r.map qX from List.take_of_length_le (by rw[List.map_cons,List.drop_succ_cons,List.drop_zero,zb];omega)] at z
      have H:=hv.rows
      simp only[go_sem,Y,H,Int.le_refl,true_and,or_true,and_true,if_true,Nat.add_sub_cancel,zb]
      refine zP (by decide) (λn T h'=>∃k:Nat,k<=M/\h'=h/\T 0=x/\T 5=i64 (IntKind.wrap .i64 (wt (r.take k)))/\T 6=i64 M/\T 25= .vw x 1 1 r.length/\T 26=i64 r.length/\T 27=i64 k/\n=M - k) M
       ⟨0,by omega,rfl,by simp only[go_sem],by(simp only[go_sem]<;>rfl),by simp only[go_sem],by simp only[go_sem],by simp only[go_sem],by(simp only[go_sem]<;>rfl),rfl⟩ ?_
      rintro n T h' ⟨k,hk,rfl,t0,t5,t6,t25,q,g,rfl⟩
      simp only[go_sem,q,g]
      refine ways (λe=>?_) (λe=>?_)
      ·have o:=dlt e
       have t:(r.map qX)[k]? =some (qX r[k]):=by rw[zx,zi o];rfl
       have N:(k:Int)<r.length:=by omega
       have W:=hv.at (i:=k) (by simpa using o)
       have P:=S r[k] (zD o)
       have u:wt (r.take (k+1))=wt (r.take k)*256+r[k]:=by rw[<-zI o,Kea]
       obtain⟨c,U⟩:∃c,c=r[k]:=⟨_,rfl⟩
       rw[<-U] at t P u
       have X:=Kha P
       simp only[go_sem,t6,t25,g,H,W,t,N,qX,zb,Int.toNat_natCast,zh]
       refine ways (λK=>?_) (λK=>?_)
       ·have p:k=M:=Int.ofNat.inj (by simpa using K)
        simp only[go_sem,q,g]
        rw[p] at t5
        have d:T 5=i64 (IntKind.wrap .i64 (wt (r.take M))):=by rw[t5]
        obtain⟨V,G⟩:∃V,V=IntKind.wrap .i64 (wt (r.take M)):=⟨_,rfl⟩
        rw[<-G] at d
        have a:tkI ((M:Int)::r)=if 0<=V/\jE V=M then some (V,r.drop M) else none:=by
         rw[tkI]
         simp only[Int.toNat_natCast]
         rw[show wr (wt (r.take M))=V from G.symm]
         by_cases z:0<=V/\jE V=M
         ·rw[if_pos z,if_pos ⟨by omega,by omega,z.1,z.2⟩]
         ·rw[if_neg z,if_neg λy=>z ⟨y.2.2.1,y.2.2.2⟩]
        cases s:decide (V≥0)
        ·rw[Qy (by rw[a,if_neg λy=>of_decide_eq_false s y.1])]
         simp only[go_sem,t0,d,t6,s,qD]
         refine zm ?_<;>(simp only[go_sem]<;>try rfl)
        ·simp only[go_sem,t0,d,t6,s,qD]
         refine zg (XIa V _) ?_
         rintro _ L ⟨rfl,rfl⟩
         cases f:jE V==(M:Int)
         ·rw[Qy (by rw[a,if_neg λy=>by rw[y.2,beq_self_eq_true] at f;cases f])]
          simp only[go_sem,t0,d,t6,f,qD]
          refine zm ?_<;>(simp only[go_sem]<;>try rfl)
         ·rw[zOa (by rw[a,if_pos ⟨of_decide_eq_true s,by simpa using f⟩])]
          have Q:IntKind.wrap .i64 (1+(M:Int))=((1+M:Nat):Int):=by rw[show((1+M:Nat):Int)=1+(M:Int) by omega];exact qp (n:=1+(M:Int)) (by unfold Fit;omega)
          have w:((((1+M:Nat)):Int)<=((r.length+1:Nat):Int))=True:=eq_true (by omega)
          have j:=w1a (i:=1+M) (n:=r.length+1 - (1+M)) E (by rw[zb,List.length_cons];omega)
          rw[show((((M:Int)::r).map qX).drop (1+M)).take (r.length+1 - (1+M))=(r.drop M).map qX from by
             rw[Nat.add_comm 1 M,List.map_cons,List.drop_succ_cons, <-List.map_drop]
             exact List.take_of_length_le (by rw[zb,List.length_drop];omega)] at j
          simp only[go_sem,t0,d,t6,f,Q,D,F,w,qD,Int.le_refl,true_and,or_true,and_true,if_true,List.length_cons,zb,Int.toNat_natCast]
          refine zg (Wy _ _ ((r.drop M).map qX) j (by rw[zb,List.length_drop];omega) (Kga _) (Zl _)) ?_
          rintro _ L ⟨rfl,rfl⟩
          simp only[go_sem,d]
          refine zm ?_<;>(simp only[go_sem]<;>try rfl)
       ·have p:k≠M:=λz=>by rw[z,beq_self_eq_true] at K;cases K
        have v:=Wua (IntKind.wrap .i64 (wt (r.take k))) c P
        rw[Wva, <-u] at v
        simp only[go_sem,t0,t5,t6,t25,q,g,X,v]
        exact⟨M - (k+1),by omega,k+1,by omega,by rw[<-v];rfl,qm (by omega) rfl,rfl⟩
      ·have θ:=xb e
       have p:k=M:=by omega
       simp only[go_sem,q,g]
       rw[p] at t5
       have d:T 5=i64 (IntKind.wrap .i64 (wt (r.take M))):=by rw[t5]
       obtain⟨V,G⟩:∃V,V=IntKind.wrap .i64 (wt (r.take M)):=⟨_,rfl⟩
       rw[<-G] at d
       have a:tkI ((M:Int)::r)=if 0<=V/\jE V=M then some (V,r.drop M) else none:=by
        rw[tkI]
        simp only[Int.toNat_natCast]
        rw[show wr (wt (r.take M))=V from G.symm]
        by_cases z:0<=V/\jE V=M
        ·rw[if_pos z,if_pos ⟨by omega,by omega,z.1,z.2⟩]
        ·rw[if_neg z,if_neg λy=>z ⟨y.2.2.1,y.2.2.2⟩]
       cases s:decide (V≥0)
       ·rw[Qy (by rw[a,if_neg λy=>of_decide_eq_false s y.1])]
        simp only[go_sem,t0,d,t6,s,qD]
        refine zm ?_<;>(simp only[go_sem]<;>try rfl)
       ·simp only[go_sem,t0,d,t6,s,qD]
        refine zg (XIa V _) ?_
        rintro _ L ⟨rfl,rfl⟩
        cases f:jE V==(M:Int)
        ·rw[Qy (by rw[a,if_neg λy=>by rw[y.2,beq_self_eq_true] at f;cases f])]
         simp only[go_sem,t0,d,t6,f,qD]
         refine zm ?_<;>(simp only[go_sem]<;>try rfl)
        ·rw[zOa (by rw[a,if_pos ⟨of_decide_eq_true s,by simpa using f⟩])]
         have Q:IntKind.wrap .i64 (1+(M:Int))=((1+M:Nat):Int):=by rw[show((1+M:Nat):Int)=1+(M:Int) by omega];exact qp (n:=1+(M:Int)) (by unfold Fit;omega)
         have w:((((1+M:Nat)):Int)<=((r.length+1:Nat):Int))=True:=eq_true (by omega)
         have j:=w1a (i:=1+M) (n:=r.length+1 - (1+M)) E (by rw[zb,List.length_cons];omega)
         rw[show((((M:Int)::r).map qX).drop (1+M)).take (r.length+1 - (1+M))=(r.drop M).map qX from by
            rw[Nat.add_comm 1 M,List.map_cons,List.drop_succ_cons, <-List.map_drop]
            exact List.take_of_length_le (by rw[zb,List.length_drop];omega)] at j
         simp only[go_sem,t0,d,t6,f,Q,D,F,w,qD,Int.le_refl,true_and,or_true,and_true,if_true,List.length_cons,zb,Int.toNat_natCast]
         refine zg (Wy _ _ ((r.drop M).map qX) j (by rw[zb,List.length_drop];omega) (Kga _) (Zl _)) ?_
         rintro _ L ⟨rfl,rfl⟩
         simp only[go_sem,d]
         refine zm ?_<;>(simp only[go_sem]<;>try rfl)
     ·simp only[go_sem,I,J,h0,D,F,C,l,A,qX,qD,List.length_cons,zb,Int.toNat_natCast,zh]
      refine Xt ⟨rfl,rfl,?_⟩
      have:=of_decide_eq_true J
      rw[tkI,if_neg (by omega)]
    ·simp only[go_sem,I,qD]
     refine Xt ⟨rfl,rfl,?_⟩
     have:=of_decide_eq_true I
     rw[tkI,if_neg (by omega)]
 ·rintro T h' ⟨rfl,hn⟩
  rw[Qy hn]
  simp only[go_sem]
  refine zm ?_<;>(simp only[go_sem]<;>try rfl)
