import Derived.Test.YtigdlmpjijhpaaaGreatKA
import Derived.Test.YtigdlmpjijhpaaaGreatK34
import Derived.Test.YtigdlmpjijhpaaaGreatK23
import Derived.Test.YtigdlmpjijhpaaaGreatK22
import Derived.Test.YtigdlmpjijhpaaaGreatK37
set_option linter.all false
namespace Go.Proofs.YtigdlmpjijhpaaaGreat.Ax
open Go Go.Proofs
set_option maxRecDepth 100000
theorem Wx(h:List Ob)(id:Nat)(x y:AV)(a b:List Spn)(hi:h[id]? =some (.row 55 1 [[x],[y]] 0))(f:SlOf h x 2 (a.map qq))(e:SlOf h y 2 (b.map qq))(i:a.length<268435456)(g:b.length<268435456):
  ACalls Tryz.prog 188 [.tl id 0] h λr h'=>r=spv (a++b)/\h'=h:=by
 have d:ym [(x,a),(y,b)]=a++b:=by simp[ym]
 have q:=ve (by decide) (Z4 _) (Zya h (.tl id 0) [(x,a),(y,b)] ⟨by rw[qS,hi];rfl,λ_=>by rw[j5,hi];rfl⟩
  (λq c=>by rcases zH.1 c with rfl|c;exact f;rw[zJ] at c;subst c;exact e) (by show 2<1048576;decide) (by rw[d,ze];omega))
 rw[d] at q
 exact q
theorem ZMa(h:List Ob)(x:AV)(l:List Seg)(b:SlOf h x 5 (l.map vb))(a:l.length<1048576):
  ACalls Tryz.prog 23 [x] h λr h'=>r=spv (qL l)/\h'=h:=ve (by decide) (Z4 _) (c31 h x l b a)
theorem Wfa(h:List Ob)(x:AV)(l:List Seg)(k:Int)(b:SlOf h x 5 (l.map vb))(a:l.length<1048576):
  ACalls Tryz.prog 243 [x,i64 k] h λr h'=>r=spv (vQ l k)/\h'=h:=ve (by decide) (Z4 _) (c32 h x l k b a)
theorem Wy(l:List Spn)(n:Int):(JV l n).length<=2*l.length+1:=by
 unfold JV
 split
 ·simp
 ·have c:=j6 l (qv l (jy (qg l) - min n 32054400))
  have a:=z6 l
  have b:=z6 (qv l (jy (qg l) - min n 32054400))
  have d:(qv l (jy (qg l) - min n 32054400)).length<=(qg l).length:=xu _ _
  omega
def Ze(s:Setup)(c b:List Spn):List Spn:=if s.autoAfter<=jy (qg c)/\jy (qg b)<s.autoBreak then JV (jo c b) (s.autoBreak - jy (qg b)) else []
def wc(s:Setup)(c b:List Spn):List Spn:=qg (jo b (qv b s.paidBreak)++Ze s c b)
theorem JZ(s:Setup)(c b:List Spn):(wc s c b).length<=2*c.length+4*b.length+4:=by
 have j:=j6 b (qv b s.paidBreak)
 have d:=z6 (qv b s.paidBreak)
 have e:=z6 b
 have f:(qv b s.paidBreak).length<=(qg b).length:=xu _ _
 have a:(Ze s c b).length<=2*(jo c b).length+1:=by
  unfold Ze
  split
  ·exact Wy _ _
  ·simp
 have g:=j6 c b
 have i:=z6 c
 have h:=z6 (jo b (qv b s.paidBreak)++Ze s c b)
 rw[ze] at h
 unfold wc
 omega
theorem Jua(h:List Ob)(s:Setup)(a:SA)(k:SIn h s a)(t:Times s)(x y:AV)(c b:List Spn)(u:SlOf h x 2 (c.map qq))(j:SlOf h y 2 (b.map qq))(J:c.length<65536)(L:b.length<65536):
  ACalls Tryz.prog 242 [jm s a,x,y] h λr h'=>r=spv (wc s c b)/\h'=h:=by
 refine zl Tryz.f242 [.tmp 6] 41 rfl rfl rfl rfl rfl rfl (by decide) (⟨_,_,⟨rfl,rfl⟩,.refl⟩) λB=>?_
 simp only[go_sem,k.ones]
 have H:∀M,(h++[Ob.box 30 (qa s a)]++M)[h.length]? =some (.box 30 (qa s a)):=λM=>by rw[zn,zM rfl];rfl
 refine zi (zWa _ y b _ (j.app _) (by omega) (by have:=t.paidBreak;unfold Fit;omega)) ?_
 rintro _ e ⟨rfl,rfl⟩
 simp only[go_sem]
 refine zi (JX _ y _ b _ (j.app _) (jK _) (by omega) (by have:=xu (qg b) s.paidBreak;have:=z6 b;unfold qv;omega)) ?_
 rintro _ e ⟨rfl,rfl⟩
 simp only[go_sem]
 refine zi (k0a _ y b (j.app _) (by omega)) ?_
 rintro _ e ⟨rfl,rfl⟩
 simp only[go_sem]
 refine zV rfl [] 0 [(0,0,[]),(2,0,[]),(3,0,[]),(1,0,[3]),(4,0,[]),(5,0,[]),(6,0,[]),(7,0,[]),(8,0,[]),(9,0,[]),(10,0,[])] rfl (by decide) (by decide) ?_
 simp only[go_sem]
 refine zi (k0a _ x c (u.app _) (by omega)) ?_
 rintro _ e ⟨rfl,rfl⟩
 have K:=j6 b (qv b s.paidBreak)
 have o:=xu (qg b) s.paidBreak
 have w:=z6 (qv b s.paidBreak)
 have A:=z6 b
 have C:(qv b s.paidBreak).length<=(qg b).length:=o
 cases g:decide (jy (qg c)≥s.autoAfter)
 ·have d:Ze s c b=[]:=by unfold Ze;rw[if_neg];exact λq=>(of_decide_eq_false g) q.1
  have f:wc s c b=qg (jo b (qv b s.paidBreak)):=by unfold wc;rw[d,zU]
  simp only[go_sem,g,qE]
  refine zi (QM _ _ (jo b (qv b s.paidBreak)) (jK _) (by omega)) ?_
  rintro _ e ⟨rfl,rfl⟩
  rw[<-f]
  simp only[go_sem]
  exact⟨_,by simp only[go_sem],.inr ⟨h,_,rfl,rfl,QL _,.refl,rfl,rfl⟩⟩
 ·have p:s.autoAfter<=jy (qg c):=of_decide_eq_true g
  cases i:decide (jy (qg b)<s.autoBreak)
  ·have d:Ze s c b=[]:=by unfold Ze;rw[if_neg];exact λq=>(of_decide_eq_false i) q.2
   have f:wc s c b=qg (jo b (qv b s.paidBreak)):=by unfold wc;rw[d,zU]
   simp only[go_sem,g,i,qE]
   refine zi (QM _ _ (jo b (qv b s.paidBreak)) (jK _) (by omega)) ?_
   rintro _ e ⟨rfl,rfl⟩
   rw[<-f]
   simp only[go_sem]
   exact⟨_,by simp only[go_sem],.inr ⟨h,_,rfl,rfl,QL _,.refl,rfl,rfl⟩⟩
  ·have m:jy (qg b)<s.autoBreak:=of_decide_eq_true i
   have d:Ze s c b=JV (jo c b) (s.autoBreak - jy (qg b)):=by unfold Ze;rw[if_pos ⟨p,m⟩]
   simp only[go_sem,g,i,qE]
   refine zV rfl [.res] 1 [(0,0,[]),(1,0,[]),(2,0,[]),(4,0,[]),(6,0,[]),(5,0,[]),(7,0,[]),(3,0,[5]),(8,0,[]),(9,0,[]),(10,0,[]),(11,0,[])] rfl (by decide) (by decide) ?_
   simp only[go_sem]
   refine zi (JX _ x y c b (u.app _) (j.app _) (by omega) (by omega)) ?_
   rintro _ e ⟨rfl,rfl⟩
   have G:=j6 c b
   have F:=z6 c
   have E:=Wk (l:=qg b) (λs I=>kE s I)
   have D:=t.autoBreak
   have z:IntKind.wrap .i64 (s.autoBreak - jy (qg b))=s.autoBreak - jy (qg b):=qb (n:=s.autoBreak - jy (qg b)) (by unfold Fit;omega)
   simp only[go_sem,z]
   refine zi (Waa _ _ (jo c b) (s.autoBreak - jy (qg b)) (jK _) (by omega) (by unfold Fit;omega)) ?_
   rintro _ e ⟨rfl,rfl⟩
   rw[<-d]
   have v:(Ze s c b).length<1048576:=by
    have:=Wy (jo c b) (s.autoBreak - jy (qg b))
    rw[d];omega
   simp only[go_sem]
   refine zi (Wx _ (h.length+1) _ _ (jo b (qv b s.paidBreak)) (Ze s c b) (by rw[zN (k:=1) rfl];rfl) (jK _) (jK _) (by omega) (by omega)) ?_
   rintro _ e ⟨rfl,rfl⟩
   simp only[go_sem]
   refine zi (QM _ _ (jo b (qv b s.paidBreak)++Ze s c b) (jK _) (by rw[ze];omega)) ?_
   rintro _ e ⟨rfl,rfl⟩
   rw[show qg (jo b (qv b s.paidBreak)++Ze s c b)=wc s c b from rfl]
   simp only[go_sem]
   exact⟨_,by simp only[go_sem],.inr ⟨h,_,rfl,rfl,QL _,.refl,rfl,rfl⟩⟩
theorem k7a{n:Nat}(a b:List Spn):(AV.tup [spv a,spv b]).lt n=true:=by
 simp only[AV.lt,qJ,QL,Bool.and_self]
theorem Jva{n:Nat}(a b c:List Spn):(AV.tup [spv a,spv b,spv c]).lt n=true:=by
 simp only[AV.lt,qJ,QL,Bool.and_self]
def kW(s:Setup)(l:List Seg)(d:Int):List Spn:=wc s (xf (qL l) d) (xf (vQ l 3) d)
def xA(s:Setup)(l:List Seg)(d:Int):List Spn:=jo (xf (qL l) d) (kW s l d)
theorem yy(l:List Seg):(qL l).length<=l.length:=by
 have:=z6 (l.map spS)
 rw[zb] at this
 exact this
theorem XL(l:List Seg)(k:Int):(vQ l k).length<=l.length:=by
 have a:=z6 ((l.filter λg=>g.kind==k).map spS)
 have b:=qt (λg:Seg=>g.kind==k) l
 rw[zb] at a
 unfold vQ;omega
theorem ZA(l:List Spn)(d:Int):(xf l d).length<=l.length+1:=by
 have b:=Zy l d 86400
 have a:=z6 l
 unfold xf;omega
theorem Jd(s:Setup)(l:List Seg)(d:Int):(kW s l d).length<=6*l.length+10:=by
 have c:=JZ s (xf (qL l) d) (xf (vQ l 3) d)
 have a:=ZA (qL l) d
 have b:=ZA (vQ l 3) d
 have f:=yy l
 have e:=XL l 3
 unfold kW;omega
theorem KO(s:Setup)(l:List Seg)(d:Int):(xA s l d).length<=7*l.length+12:=by
 have e:=j6 (xf (qL l) d) (kW s l d)
 have a:=ZA (qL l) d
 have b:=Jd s l d
 have g:=yy l
 have f:=z6 (xf (qL l) d)
 have c:=z6 (kW s l d)
 unfold xA;omega
theorem wEa(h:List Ob)(s:Setup)(a:SA)(k:SIn h s a)(f:SFit s)(c:qo s=true)(x:AV)(l:List Seg)(d:Int)(e:SlOf h x 5 (l.map vb))(j:l.length<32768):
  ACalls Tryz.prog 184 [jm s a,x,i64 d] h λr h'=>r= .tup [spv (xA s l d),spv (kW s l d)]/\h'=h:=by
 have b:=yy l
 have g:=XL l 3
 have i:=ZA (qL l) d
 have n:=ZA (vQ l 3) d
 have m:=Jd s l d
 refine zl Tryz.f184 [.tmp 6,.tmp 7] 28 rfl rfl rfl rfl rfl rfl (by decide) (⟨_,_,⟨rfl,rfl⟩,.refl⟩) λB=>?_
 simp only[go_sem,k.ones]
 refine zi (c16 _ s a (k.app _) f) ?_
 rintro _ b ⟨rfl,rfl⟩
 simp only[go_sem,c,qE,Bool.not_true]
 refine zi (ZMa _ x l (e.app _) (by omega)) ?_
 rintro _ b ⟨rfl,rfl⟩
 simp only[go_sem]
 refine zi (x4a _ _ (qL l) d (jK _) (by omega)) ?_
 rintro _ b ⟨rfl,rfl⟩
 simp only[go_sem]
 refine zV rfl [] 0 [(1,0,[]),(2,0,[]),(4,0,[]),(0,0,[]),(3,0,[0]),(5,0,[0]),(6,0,[]),(7,0,[])] rfl (by decide) (by decide) ?_
 simp only[go_sem,k.ones]
 refine zi (Wfa _ x l 3 (e.app _) (by omega)) ?_
 rintro _ b ⟨rfl,rfl⟩
 simp only[go_sem]
 refine zi (x4a _ _ (vQ l 3) d (jK _) (by omega)) ?_
 rintro _ b ⟨rfl,rfl⟩
 simp only[go_sem]
 refine zi (Jua _ s a (k.app _) (Kk c) _ _ (xf (qL l) d) (xf (vQ l 3) d) (jK _) (jK _) (by omega) (by omega)) ?_
 rintro _ b ⟨rfl,rfl⟩
 rw[show wc s (xf (qL l) d) (xf (vQ l 3) d)=kW s l d from rfl]
 simp only[go_sem]
 refine zi (JX _ _ _ (xf (qL l) d) (kW s l d) (jK _) (jK _) (by omega) (by omega)) ?_
 rintro _ b ⟨rfl,rfl⟩
 rw[show jo (xf (qL l) d) (kW s l d)=xA s l d from rfl]
 simp only[go_sem]
 exact⟨_,by simp only[go_sem],.inr ⟨h,_,rfl,rfl,k7a _ _,.refl,rfl,rfl⟩⟩
structure L2 (F:List (Nat × Ob)) (h0 h:List Ob) (i j bty ty e:Nat) (r1 r2:List (List AV)):Prop where
 pre:Pre h0 h
 li:h0.length<=i
 lj:h0.length<=j
 ne:i≠j
 kept:∀z∈F,z.1≠i/\z.1≠j/\(∃t cs,z.2= .box t cs)/\h[z.1]? =some z.2
 at_:∃x y,h[i]? =some (.box bty [x])/\h[j]? =some (.box bty [y])/\OwnS h0 h ty e x r1/\OwnS h0 h ty e y r2/\∀a s b t,x= .tl a s->y= .tl b t->a≠b
def BoxK(i j:Nat)(h m:List Ob):Prop:=∀(z:Nat) (t:TypeId) (cs:List AV),z≠i->z≠j->h[z]? =some (.box t cs)->m[z]? =some (.box t cs)
theorem BoxK.app{i j:Nat}{h M:List Ob}:BoxK i j h (h++M):=λz t cs _ _ q=>zf q
theorem BoxK.trans{i j:Nat}{a b c:List Ob}(h:BoxK i j a b)(k:BoxK i j b c):BoxK i j a c:=λz t cs hi d q=>k z t cs hi d (h z t cs hi d q)
theorem BoxK.setR{i j id:Nat}{a:List Ob}{o:Ob}{ty e:Nat}{rows:List (List AV)}{st:Nat}(hi:a[id]? =some (.row ty e rows st)):BoxK i j a (a.set id o):=λz t cs _ _ q=>by
 have:id≠z:=λe=>by rw[e,q] at hi;cases hi
 rw[zc this];exact q
theorem OwnS.setB{h0 h:List Ob}{ty e:Nat}{x:AV}{rows:List (List AV)}(k:OwnS h0 h ty e x rows){i:Nat}{o:Ob}{t:TypeId}{cs:List AV}(hi:h[i]? =some (.box t cs)):OwnS h0 (h.set i o) ty e x rows:=by
 rcases k with⟨rfl,b⟩|⟨id,st,c,rfl,a⟩
 ·exact .inl ⟨rfl,b⟩
 ·refine .inr ⟨id,st,c,rfl,?_⟩
  have:i≠id:=λe=>by rw[e,a] at hi;cases hi
  rw[zc this];exact a
theorem L2.fin{F:List (Nat × Ob)}{h0 h m:List Ob}{i j bty ty e:Nat}{v G f d:List (List AV)}(k:L2 F h0 h i j bty ty e v G)(D:Pre h0 m)(C:BoxK i j h m){x' y':AV}(hi:∃x,m[i]? =some (.box bty [x]))(A:∃x,m[j]? =some (.box bty [x]))
  (B:OwnS h0 m ty e x' f) (u:OwnS h0 m ty e y' d) (p:∀a s b t,x'= .tl a s->y'= .tl b t->a≠b):L2 F h0 ((m.set i (.box bty [x'])).set j (.box bty [y'])) i j bty ty e f d:=by
 obtain⟨x,l⟩:=hi
 obtain⟨y,E⟩:=A
 have n:(m.set i (.box bty [x']))[i]? =some (.box bty [x']):=zm (zd.1 l).1
 have c:(m.set i (.box bty [x']))[j]? =some (.box bty [y]):=by rw[zc k.ne];exact E
 refine⟨(D.set k.li rfl).set k.lj rfl,k.li,k.lj,k.ne,λz w=>?_,x',y',?_,zm (zd.1 c).1,(B.setB l).setB c,(u.setB l).setB c,p⟩
 ·obtain⟨o,g,⟨t,cs,q⟩,r⟩:=k.kept z w
  refine⟨o,g,⟨t,cs,q⟩,?_⟩
  rw[q] at r⊢
  rw[zc (Ne.symm g),zc (Ne.symm o)]
  exact C _ _ _ o g r
 ·rw[zc k.ne.symm];exact n
theorem L2.any{F:List (Nat × Ob)}{h0 h:List Ob}{i j bty ty e:Nat}{n r:List (List AV)}(k:L2 F h0 h i j bty ty e n r)(d c:List (List AV)):∃h',L2 F h0 h' i j bty ty e d c/\ResK h h':=by
 obtain⟨x,y,p,l,_⟩:=k.at_
 have o:=k.pre.len
 have q:=k.fin (m:=h++[.row ty e d 0,.row ty e c 0]) (k.pre.app (zp rfl (zF rfl))) .app (x':= .tl h.length 0) (y':= .tl (h.length+1) 0) ⟨x,zf p⟩ ⟨y,zf l⟩
  (.inr ⟨_,_,o,rfl,by rw[zM rfl];rfl⟩) (.inr ⟨_,_,by omega,rfl,by rw[zN (k:=1) rfl];rfl⟩) (λa s b t g f=>by injection g with g;injection f with f;omega)
 exact⟨_,q,k.pre.resK q.pre⟩
theorem KEa(F:List (Nat × Ob))(h0 h:List Ob)(i j u v:Nat)(s:Setup)(a:SA)(x:AV)(l:List Seg)(p q:List Spn)(d:Int)(k:L2 F h0 h i j 55 143 2 (p.map qq) (q.map qq))(ks:SIn h s a)(f:SFit s)(X:qo s=true)
  (hu:(u,Ob.box 30 (qa s a))∈F) (hv:(v,Ob.box 51 [x])∈F) (hx:SlOf h x 5 (l.map vb)) (L:l.length<32768) (hp:p.length<4294967296) (hq:q.length<4294967296):
  ACalls Tryz.prog 183 [i64 d,.ptr u 0,.ptr v 0,.ptr i 0,.ptr j 0] h λr h'=>r= .tup []/\L2 F h0 h' i j 55 143 2 ((p++xA s l d).map qq) ((q++kW s l d).map qq):=by
 have hex:∃r h',(r=AV.tup []/\L2 F h0 h' i j 55 143 2 ((p++xA s l d).map qq) ((q++kW s l d).map qq))/\ResK h h':=by
  obtain⟨h',q1,q2⟩:=k.any ((p++xA s l d).map qq) ((q++kW s l d).map qq)
  exact⟨_,h',⟨rfl,q1⟩,q2⟩
 have α:=(k.kept _ hu).2.2.2
 have β:=(k.kept _ hv).2.2.2
 obtain⟨y,z,w,m,oy,W,S⟩:=k.at_
 have V:=hx.cells
 have ν:=KO s l d
 have τ:=Jd s l d
 have D:=zYa (xA s l d)
 have C:=zYa (kW s l d)
 have c1:(p.length+(xA s l d).length)*17<=140737488355328:=by omega
 have c2:(q.length+(kW s l d).length)*17<=140737488355328:=by omega
 have c3:(xA s l d).length*17<=140737488355328:=by omega
 have c4:(kW s l d).length*17<=140737488355328:=by omega
 refine zl Tryz.f183 [] 21 rfl rfl rfl rfl rfl rfl (by decide) (hex) λB=>?_
 simp only[go_sem,α,β,ks.ones,V]
 refine zi (wEa h s a ks f X x l d hx L) ?_
 rintro _ H ⟨rfl,rfl⟩
 simp only[go_sem]
 refine zV rfl [] 0 [(1,0,[]),(4,0,[]),(0,0,[]),(3,0,[]),(2,0,[3]),(5,0,[]),(6,0,[]),(7,0,[])] rfl (by decide) (by decide) ?_
 have e:∀M,(H++M)[i]? =some (.box 55 [y]):=λM=>zf w
 have c:∀M,(H++M)[j]? =some (.box 55 [z]):=λM=>zf m
 have ξ:=oy.rows.cells
 have ο:=W.rows.cells
 have Q:i≠j:=k.ne
 have G:j≠i:=k.ne.symm
 have L:=k.pre.len
 have hi:i<H.length:=(zd.1 w).1
 have hj:j<H.length:=(zd.1 m).1
 rcases oy with⟨rfl,U⟩|⟨ia,sa,R,rfl,A⟩
 ·have Z:p=[]:=by simpa using U
  subst Z
  rcases W with⟨rfl,J⟩|⟨ib,T,v1,rfl,v3⟩
  ·have I:q=[]:=by simpa using J
   subst I
   simp only[go_sem,w,m,e,c,D,C,c3,c4,zb,zc,Q,G,ne_eq,not_false_eq_true]
   exact⟨_,rfl,.inl ⟨rfl,k.fin (k.pre.app (zp rfl (zF rfl))) .app ⟨_,e _⟩ ⟨_,c _⟩ (.inr ⟨_,_,L,rfl,by rw[zM rfl];rfl⟩) (.inr ⟨_,_,by omega,rfl,by rw[zN (k:=1) rfl];rfl⟩) (λa s b t n g=>by injection n with n;injection g with g;omega)⟩⟩
  ·have E:∀M,(H++M)[ib]? =some (.row 143 2 (q.map qq) T):=λM=>zf v3
   have n1:ib≠i:=λq=>by rw[q,w] at v3;cases v3
   have n2:ib≠j:=λq=>by rw[q,m] at v3;cases v3
   have Y:=(zd.1 v3).1
   simp only[go_sem,w,m,e,c,D,C,c2,c3,E,v3,zb,zc,Q,G,n1,n2,ne_eq,not_false_eq_true]
   refine⟨_,rfl,.inl ⟨rfl,k.fin ((k.pre.app (zF rfl)).set v1 rfl) (BoxK.app.trans (.setR (E _))) ⟨_,(zc n1).trans (e _)⟩ ⟨_,(zc n2).trans (c _)⟩ (.inr ⟨_,_,L,rfl,?_⟩) (.inr ⟨_,_,v1,rfl,?_⟩) (λa s b t n g=>by injection n with n;injection g with g;omega)⟩⟩
   ·rw[zc (by omega),zM rfl];rfl
   ·rw[zm (by rw[ze];omega), <-zy]
 ·have O:∀M,(H++M)[ia]? =some (.row 143 2 (p.map qq) sa):=λM=>zf A
  have n3:ia≠i:=λq=>by rw[q,w] at A;cases A
  have n4:ia≠j:=λq=>by rw[q,m] at A;cases A
  have P:=(zd.1 A).1
  rcases W with⟨rfl,J⟩|⟨ib,T,v1,rfl,v3⟩
  ·have I:q=[]:=by simpa using J
   subst I
   have K:∀o M,(H.set ia o++M)[i]? =some (.box 55 [.tl ia sa]):=λo M=>zf ((zc n3).trans w)
   have N:∀o M,(H.set ia o++M)[j]? =some (.box 55 [.v (.slice none 0 0)]):=λo M=>zf ((zc n4).trans m)
   simp only[go_sem,w,m,e,c,K,N,D,C,c1,c4,O,A,zb,zc,Q,G,n3,n4,ne_eq,not_false_eq_true]
   refine⟨_,rfl,.inl ⟨rfl,k.fin ((k.pre.set R rfl).app (zF rfl)) (BoxK.trans (.setR A) .app) ⟨_,K _ _⟩ ⟨_,N _ _⟩ (.inr ⟨_,_,R,rfl,?_⟩) (.inr ⟨_,_,L,rfl,?_⟩) (λa s b t n g=>by injection n with n;injection g with g;omega)⟩⟩
   ·refine zf ?_
    rw[zm P, <-zy]
   ·rw[zM (by rw[zP])];rfl
  ·have E:∀M,(H++M)[ib]? =some (.row 143 2 (q.map qq) T):=λM=>zf v3
   have n1:ib≠i:=λq=>by rw[q,w] at v3;cases v3
   have n2:ib≠j:=λq=>by rw[q,m] at v3;cases v3
   have n5:ia≠ib:=S _ _ _ _ rfl rfl
   have Y:=(zd.1 v3).1
   simp only[go_sem,w,m,e,c,D,C,c1,c2,O,E,A,v3,zb,zc,Q,G,n1,n2,n3,n4,n5,ne_eq,not_false_eq_true]
   refine⟨_,rfl,.inl ⟨rfl,k.fin ((k.pre.set R rfl).set v1 rfl) (BoxK.trans (.setR A) (.setR ((zc n5).trans v3))) ⟨_,(zc n1).trans ((zc n3).trans w)⟩ ⟨_,(zc n2).trans ((zc n4).trans m)⟩ (.inr ⟨_,_,R,rfl,?_⟩) (.inr ⟨_,_,v1,rfl,?_⟩) (λa s b t n g=>by injection n with n;injection g with g;omega)⟩⟩
   ·rw[zc n5.symm,zm P, <-zy]
   ·rw[zm (by rw[zP];omega), <-zy]
def yR(s:Setup)(l:List Seg):List Spn:=qg ((qA (qL l)).flatMap (xA s l))
def we(s:Setup)(l:List Seg):List Spn:=qg ((qA (qL l)).flatMap (kW s l))
theorem Wz{f:Int->List Spn}{m:Nat}(a:∀d,(f d).length<=m):∀l:List Int,(l.flatMap f).length<=m*l.length
 | []=>by simp
 | d::l=>by
   have c:=a d
   have b:=Wz a l
   rw[List.flatMap_cons,ze,List.length_cons,Nat.mul_succ];omega
theorem Je{f:Int->List Spn}{l:List Int}{n:Nat}(h:n<l.length):(l.take (n+1)).flatMap f=(l.take n).flatMap f++f l[n]:=by
 rw[<-zD h,List.flatMap_append];simp
theorem Wga(h:List Ob)(s:Setup)(a:SA)(k:SIn h s a)(f:SFit s)(S:qo s=true)(x:AV)(l:List Seg)(E:SlOf h x 5 (l.map vb))(hl:l.length<32768):
  ACalls Tryz.prog 114 [jm s a,x] h λr h'=>r= .tup [spv (yR s l),spv (we s l)]/\h'=h:=by
 have Q:=E.cells
 have K:=E.one
 have η:=yy l
 refine zl Tryz.f114 [.cell 4 55,.cell 5 55] 29 rfl rfl rfl rfl rfl rfl (by decide) (⟨_,_,⟨rfl,rfl⟩,.refl⟩) λB=>?_
 simp only[go_sem,k.ones,K,Q]
 refine zi (ZMa _ x l (E.app _) (by omega)) ?_
 rintro _ h1 ⟨rfl,rfl⟩
 simp only[go_sem]
 refine zi (Zwa _ _ (qL l) (jK _) (by omega)) ?_
 rintro _ h1 ⟨rfl,rfl⟩
 have P:=wQ (qL l)
 have i:yR s l=qg (((qA (qL l)).take (qA (qL l)).length).flatMap (xA s l)):=by rw[zY];rfl
 have d:we s l=qg (((qA (qL l)).take (qA (qL l)).length).flatMap (kW s l)):=by rw[zY];rfl
 obtain⟨v,hv⟩:∃v,v=qA (qL l):=⟨_,rfl⟩
 rw[<-hv] at P i d⊢
 simp only[go_sem,zb]
 obtain⟨F,R⟩:∃F,F=[(h.length,Ob.box 30 (qa s a)),(h.length+1,Ob.box 51 [x])]:=⟨_,rfl⟩
 have hu:(h.length,Ob.box 30 (qa s a))∈F:=by rw[R];simp
 have hw:(h.length+1,Ob.box 51 [x])∈F:=by rw[R];simp
 obtain⟨G,O⟩:∃G,G=AV.fn (.func 183) [] [.ptr h.length 0,.ptr (h.length+1) 0,.ptr (h.length+2) 0,.ptr (h.length+3) 0]:=⟨_,rfl⟩
 rw[<-O]
 refine zO (by decide) (λm T h'=>∃n:Nat,n<=v.length/\L2 F h h' (h.length+2) (h.length+3) 55 143 2 (((v.take n).flatMap (xA s l)).map qq) (((v.take n).flatMap (kW s l)).map qq)/\T 4= .ptr (h.length+2) 0/\T 5= .ptr (h.length+3) 0/\T 6= .sl 1 (v.map qI)/\T 7=G/\T 14=i64 v.length/\T 15=i64 n/\m=v.length - n) v.length
  ⟨0,by omega,⟨⟨_,rfl,zp rfl (zp rfl (zp rfl (zF rfl)))⟩,by omega,by omega,by omega,(λz c=>by
   rw[R] at c
   rcases zH.1 c with rfl|c
   ·exact⟨by show h.length≠h.length+2;omega,by show h.length≠h.length+3;omega,⟨_,_,rfl⟩,by rw[zM rfl];rfl⟩
   ·rw[zJ] at c
    subst c
    exact⟨by show h.length+1≠h.length+2;omega,by show h.length+1≠h.length+3;omega,⟨_,_,rfl⟩,by rw[zN (k:=1) rfl];rfl⟩),
   _,_,by rw[zN (k:=2) rfl];rfl,by rw[zN (k:=3) rfl];rfl,.inl ⟨rfl,rfl⟩,.inl ⟨rfl,rfl⟩,λa s b t H=>by cases H⟩,by simp only[go_sem],by simp only[go_sem],by simp only[go_sem],by simp only[go_sem],by(simp only[go_sem]<;>rfl),by(simp only[go_sem]<;>rfl),rfl⟩ ?_
 rintro m T h' ⟨n,ι,p,t4,t5,t6,Y,w,j,rfl⟩
 have D:=Wz (KO s l) (v.take n)
 have u:=Wz (Jd s l) (v.take n)
 rw[zX] at D u
 have J:(7*l.length+12)*min n v.length<=(7*32768+12)*371:=Nat.mul_le_mul (by omega) (by omega)
 have C:(6*l.length+10)*min n v.length<=(6*32768+10)*371:=Nat.mul_le_mul (by omega) (by omega)
 simp only[go_sem,w,j]
 refine ways (λe=>?_) (λe=>?_)
 ·have o:=dlt e
  have g:=XK o
  have N:(n:Int)<v.length:=by omega
  have H:=Je (f:=xA s l) o
  have W:=Je (f:=kW s l) o
  obtain⟨z,c⟩:∃z,z=v[n]:=⟨_,rfl⟩
  rw[<-c] at g H W
  simp only[go_sem,t6,Y,j,g,N,O,zb,Int.toNat_natCast,zg]
  refine zi (KEa F h h' (h.length+2) (h.length+3) h.length (h.length+1) s a x l _ _ z p (p.pre.sin k) f S hu hw (p.pre.sl E) hl (by omega) (by omega)) ?_
  rintro _ h6 ⟨rfl,k6⟩
  rw[<-H, <-W] at k6
  simp only[go_sem,j]
  exact⟨v.length - (n+1),by omega,n+1,by omega,k6,t4,t5,t6,by rw[Y,O],w,qc (by omega) rfl,rfl⟩
 ·have β:=xc e
  have V:n=v.length:=by omega
  subst V
  obtain⟨y,z,I,c,oy,oz,α⟩:=p.at_
  have A:=p.pre
  simp only[go_sem]
  refine zV rfl [] 0 [(0,0,[]),(2,0,[]),(1,0,[2]),(3,0,[]),(4,0,[]),(5,0,[])] rfl (by decide) (by decide) ?_
  have ρ:∀M,(h'++M)[h.length+2]? =some (.box 55 [y]):=λM=>zf I
  have κ:∀M,(h'++M)[h.length+3]? =some (.box 55 [z]):=λM=>zf c
  simp only[go_sem,t4,t5,I,c]
  refine zi (QM _ y _ oy.rows (by omega)) ?_
  rintro _ h' ⟨rfl,rfl⟩
  rw[<-i]
  simp only[go_sem,c,t5]
  refine zi (QM _ z _ oz.rows (by omega)) ?_
  rintro _ h' ⟨rfl,rfl⟩
  rw[<-d]
  have ne:h.length+2≠h.length+3:=by omega
  have q:h.length+3≠h.length+2:=by omega
  have Z:=(zd.1 I).1
  have X:=(zd.1 c).1
  simp only[go_sem,t4,t5,I,c,zc,ne,q,ne_eq,not_false_eq_true]
  have U:Pre h ((h'.set (h.length+2) (.box 55 [spv (yR s l)])).set (h.length+3) (.box 55 [spv (we s l)])):=(A.set p.li rfl).set p.lj rfl
  obtain⟨L,hL,hN⟩:=U
  refine⟨.tup [spv (yR s l),spv (we s l)],?_,.inr ⟨h,L,hL,rfl,k7a _ _,.refl,rfl,rfl⟩⟩
  have q1:((h'.set (h.length+2) (.box 55 [spv (yR s l)])).set (h.length+3) (.box 55 [spv (we s l)]))[h.length+2]? =some (.box 55 [spv (yR s l)]):=by
   rw[zc q,zm (by omega)]
  have q2:((h'.set (h.length+2) (.box 55 [spv (yR s l)])).set (h.length+3) (.box 55 [spv (we s l)]))[h.length+3]? =some (.box 55 [spv (we s l)]):=by
   rw[zm (by rw[zP];omega)]
  simp only[go_sem,t4,t5,q1,q2]
end Go.Proofs.YtigdlmpjijhpaaaGreat.Ax
namespace Go.Proofs.YtigdlmpjijhpaaaGreat.Ax
open Go
theorem Kl{C:List Spn}{n size:Int}(r:0<size){s:Spn}(f:s∈vg C n size):((∃p∈qg C,s.from_=p.from_)∨s.from_=n*size)/\n*size<=s.from_/\s.from_<(n+1)*size:=by
 unfold vg at f
 split at f
 ·cases f
 ·rename_i A
  have g:0<=n:=by omega
  have v:0<=n*size:=Int.mul_nonneg g (by omega)
  have j:=kE s f
  have m:=(XI (a:=C) (b:=[⟨n*size,(n+1)*size⟩]) (t:=s.from_)).1 ⟨s,f,by omega,j.2.1⟩
  obtain⟨_,_,y,c,i,h⟩:=m
  rw[zJ] at c
  subst c
  refine⟨?_,i,h⟩
  obtain⟨y,c,e⟩:=JR f
  unfold jW at c
  obtain⟨z,d,rfl⟩:=zx.1 (qw.1 c).1
  obtain⟨p,l,d⟩:=List.mem_flatMap.1 d
  obtain⟨q,k,rfl⟩:=zx.1 d
  have x:=(kE p l).1
  have w:=(kE q k).1
  obtain⟨y,c,o⟩:=JR k
  unfold jW at c
  obtain⟨z,d,rfl⟩:=zx.1 (qw.1 c).1
  rw[zJ] at d
  subst d
  simp only[xN] at o
  simp only[xN,yK] at e
  by_cases u:p.from_<=q.from_
  ·right;omega
  ·left;exact⟨p,l,by omega⟩
theorem wFa(C:List Spn)(size:Int)(a:0<size)(L:List Int)(c:L.Nodup):(L.flatMap λd=>vg C d size).length<=(qg C).length+L.length:=by
 have key:∀L:List Int,L.Nodup->((L.flatMap λd=>vg C d size).map (·.from_)).Nodup:=λL=>by
  induction L with
  | nil=>intro _;simp
  | cons d L o=>
    intro c
    rw[List.nodup_cons] at c
    rw[List.flatMap_cons,zy,List.nodup_append]
    refine⟨?_,o c.2,?_⟩
    ·unfold vg
     split
     ·simp
     ·exact(vf _).froms
    ·intro x l y m e
     obtain⟨s,f,rfl⟩:=zx.1 l
     obtain⟨t,i,rfl⟩:=zx.1 m
     obtain⟨k,h,i⟩:=List.mem_flatMap.1 i
     have w:=(Kl a f).2
     have z:=(Kl a i).2
     have g:d≠k:=λq=>c.1 (by rw[q];exact h)
     rw[e] at w
     rcases Int.lt_or_gt_of_ne g with u|r
     ·have:(d+1)*size<=k*size:=Int.mul_le_mul_of_nonneg_right (by omega) (by omega)
      omega
     ·have:(k+1)*size<=d*size:=Int.mul_le_mul_of_nonneg_right (by omega) (by omega)
      omega
 have j:=Jc (key L c) (b:=(qg C).map (·.from_)++L.map (· *size)) λx l=>by
  obtain⟨s,f,rfl⟩:=zx.1 l
  obtain⟨d,n,f⟩:=List.mem_flatMap.1 f
  rw[zK]
  rcases (Kl a f).1 with⟨p,v,e⟩|e
  ·exact .inl (zx.2 ⟨p,v,e.symm⟩)
  ·exact .inr (zx.2 ⟨d,n,e.symm⟩)
 simpa using j
theorem QQ(C:List Spn)(L:List Int)(a:L.Nodup):(L.flatMap (xf C)).length<=(qg C).length+L.length:=wFa C 86400 (by decide) L a
theorem k8a{f g:Int->List Spn}{a b:Nat}(h:∀d,(f d).length<=a*(g d).length+b):∀L:List Int,(L.flatMap f).length<=a*(L.flatMap g).length+b*L.length
 | []=>by simp
 | d::L=>by
   have e:=h d
   have c:=k8a h L
   rw[List.flatMap_cons,List.flatMap_cons,ze,ze,List.length_cons,Nat.mul_add,Nat.mul_succ];omega
theorem WA{f g k:Int->List Spn}{a b c:Nat}(h:∀d,(f d).length<=a*(g d).length+b*(k d).length+c):∀L:List Int,(L.flatMap f).length<=a*(L.flatMap g).length+b*(L.flatMap k).length+c*L.length
 | []=>by simp
 | d::L=>by
   have i:=h d
   have e:=WA h L
   rw[List.flatMap_cons,List.flatMap_cons,List.flatMap_cons,ze,ze,ze,List.length_cons,Nat.mul_add,Nat.mul_add,Nat.mul_succ];omega
theorem wA{L:List Int}(h:L.Pairwise (· < ·)):L.Nodup:=h.imp λ{a b} q e=>by omega
open Go.Proofs
set_option maxRecDepth 100000
theorem kaa(s:Setup)(l:List Seg)(d:Int):(xA s l d).length<=3*(xf (qL l) d).length+4*(xf (vQ l 3) d).length+5:=by
 have c:=j6 (xf (qL l) d) (kW s l d)
 have a:=JZ s (xf (qL l) d) (xf (vQ l 3) d)
 have b:=z6 (xf (qL l) d)
 have e:=z6 (kW s l d)
 unfold xA
 unfold kW at*
 omega
theorem jta(s:Setup)(l:List Seg):(yR s l).length<=7*l.length+4452:=by
 have h0:=z6 ((qA (qL l)).flatMap (xA s l))
 have e:=WA (kaa s l) (qA (qL l))
 have b:=QQ (qL l) _ (wA (kJ (qL l)).1)
 have c:=QQ (vQ l 3) _ (wA (kJ (qL l)).1)
 have h:=wQ (qL l)
 have g:=z6 (qL l)
 have d:=z6 (vQ l 3)
 have a:=yy l
 have f:=XL l 3
 unfold yR
 omega
theorem jua(s:Setup)(l:List Seg):(we s l).length<=6*l.length+4452:=by
 have h0:=z6 ((qA (qL l)).flatMap (kW s l))
 have g:=WA (λd=>JZ s (xf (qL l) d) (xf (vQ l 3) d)) (qA (qL l))
 have b:=QQ (qL l) _ (wA (kJ (qL l)).1)
 have c:=QQ (vQ l 3) _ (wA (kJ (qL l)).1)
 have j:=wQ (qL l)
 have i:=z6 (qL l)
 have f:=z6 (vQ l 3)
 have a:=yy l
 have h:=XL l 3
 unfold we
 have e:(qA (qL l)).flatMap (kW s l)=(qA (qL l)).flatMap λd=>wc s (xf (qL l) d) (xf (vQ l 3) d):=rfl
 rw[e] at h0⊢
 omega
def Km(v:List Spn)(d:Int):AV:=spv (xf v d)
theorem Jwa(j:Nat)(v:List Spn)(w:v.length<1048576):Kqa Tryz.prog 244 [.ptr j 0] (λh=>h[j]? =some (.box 55 [spv v])) ((qA v).map (Km v)):=by
 intro l K D f y c a x C
 have hex:∃(r:AV) (h':List Ob),K ((qA v).map (Km v)).length h'/\ResK D h':=by
  obtain⟨h',q⟩:=a
  exact⟨.tup [],h',q⟩
 have H:=c 0 D f
 have k:=wQ v
 refine zl Tryz.f244 [] 19 rfl rfl rfl rfl rfl rfl (by decide) (hex) λB=>?_
 simp only[go_sem,H,zb]
 refine zi (Zwa _ _ v (jK _) w) ?_
 rintro _ L ⟨rfl,rfl⟩
 rw[zb] at a
 obtain⟨W,F⟩:∃W,W=qA v:=⟨_,rfl⟩
 rw[<-F] at k a C⊢
 simp only[go_sem,zb]
 refine zO (by decide) (λm T h'=>∃(i:Nat),i<=W.length/\K i h'/\T 0= .v (.func (.yield l) #[] #[])/\T 1= .ptr j 0/\T 6= .sl 1 (W.map qI)/\T 7=i64 W.length/\T 8=i64 i/\m=W.length - i) W.length
  ⟨0,by omega,f,by simp only[go_sem],by simp only[go_sem],by simp only[go_sem],by(simp only[go_sem]<;>rfl),by(simp only[go_sem]<;>rfl),rfl⟩ ?_
 rintro m T h' ⟨i,hi,p,t0,t1,t6,A,t8,rfl⟩
 simp only[go_sem,A,t8]
 refine ways (λe=>?_) (λe=>?_)
 ·have g:=dlt e
  have b:=XK g
  have n:(i:Int)<W.length:=by omega
  have o:=c i h' p
  have t:(W.map (Km v))[i]? =some (Km v W[i]):=by rw[zr,zh g];rfl
  have d:=C i _ h' t p
  obtain⟨z,G⟩:∃z,z=W[i]:=⟨_,rfl⟩
  rw[<-G] at b d
  simp only[go_sem,t0,t1,t6,t8,b,o,n,zb,Int.toNat_natCast,zg]
  refine zi (x4a _ _ v z (jK _) w) ?_
  rintro _ J ⟨rfl,rfl⟩
  simp only[go_sem]
  refine Qv d ?_
  rintro M ⟨s,I⟩
  simp only[go_sem,t8]
  exact⟨W.length - (i+1),by omega,i+1,by omega,s,t0,t1,t6,A,qc (by omega) rfl,rfl⟩
 ·have E:=xc e
  have u:i=W.length:=by omega
  subst u
  simp only[go_sem]
  exact⟨_,rfl,.inl p⟩
theorem wGa(h:List Ob)(v:List Spn):ACalls Tryz.prog 185 [spv v] h λr h'=>r= .fn (.func 244) [] [.ptr h.length 0]/\h'=h++[.box 55 [spv v]]:=by
 refine zl Tryz.f185 [.tmp 2] 4 rfl rfl rfl rfl rfl rfl (by decide) (⟨_,_,⟨rfl,rfl⟩,q8⟩) λB=>?_
 simp only[go_sem]
 exact⟨_,rfl,.inl ⟨rfl,rfl⟩⟩
theorem ZNa(h:List Ob)(j:Nat)(v:List Spn)(n:Int)(a:h[j]? =some (.box 55 [spv v]))(b:v.length<1048576)(c:Fit n):
  ACalls Tryz.prog 186 [i64 n,.ptr j 0] h λr h'=>r=spv (qv v n)/\h'=h:=by
 refine zl Tryz.f186 [.tmp 3] 7 rfl rfl rfl rfl rfl rfl (by decide) (⟨_,_,⟨rfl,rfl⟩,.refl⟩) λB=>?_
 simp only[go_sem,a]
 refine zi (zWa _ _ v n (jK _) b c) ?_
 rintro _ d ⟨rfl,rfl⟩
 simp only[go_sem]
 exact⟨_,by simp only[go_sem],.inl ⟨rfl,rfl⟩⟩
def Sv(y:AV)(R:List Spn):Prop:=y=spv R∨y= .v (.slice none 0 0)/\R=[]
theorem Sv.sl{h:List Ob}{y:AV}{R:List Spn}(k:Sv y R):SlOf h y 2 (R.map qq):=by
 rcases k with rfl|⟨rfl,rfl⟩
 ·exact jK _
 ·exact⟨rfl,λh=>absurd rfl h⟩
def yW(s:Setup)(W:List Spn)(l:List Int):List Spn:=l.flatMap λd=>qv (xf W d) s.dayReg
def Zm(s:Setup)(W:List Spn)(l:List Int):List Spn:=l.flatMap λd=>qv (xf W d) s.dayOver
def QR(s:Setup)(p:List Spn)(w:Int):List Spn × List Spn × List Spn:=
 let W:=jh p w
 let t:=qv (yW s W (qA W)) s.weekReg
 (t,jo (Zm s W (qA W)) t,jo W (Zm s W (qA W)))
theorem wB(W:List Spn)(n:Int)(L:List Int)(h:L.Nodup):(L.flatMap λd=>qv (xf W d) n).length<=W.length+L.length:=by
 have e:=k8a (f:=λd=>qv (xf W d) n) (g:=xf W) (a:=1) (b:=0) (λd=>by
  have e:(qv (xf W d) n).length<=(qg (xf W d)).length:=xu _ _
  have c:=z6 (xf W d)
  omega) L
 have c:=QQ W L h
 have i:=z6 W
 omega
theorem ZOa{s:Setup}{W:List Spn}{l:List Int}{n:Nat}(h:n<l.length):yW s W (l.take (n+1))=yW s W (l.take n)++qv (xf W l[n]) s.dayReg:=Je h
theorem ZPa{s:Setup}{W:List Spn}{l:List Int}{n:Nat}(h:n<l.length):Zm s W (l.take (n+1))=Zm s W (l.take n)++qv (xf W l[n]) s.dayOver:=Je h
structure KOv (h:List Ob) (s:Setup) (a:SA) (W:List Spn) (l:List Int) (h':List Ob):Prop where
 pre:Pre h h'
 set_:h'[h.length]? =some (.box 30 (qa s a))
 reg:∃y,h'[h.length+1]? =some (.box 55 [y])/\Sv y (yW s W l)
 ovr:∃y,h'[h.length+2]? =some (.box 55 [y])/\Sv y (Zm s W l)
 wk:h'[h.length+3]? =some (.box 55 [spv W])
theorem KOv.app{h:List Ob}{s:Setup}{a:SA}{W:List Spn}{l:List Int}{h':List Ob}(k:KOv h s a W l h'){M:List Ob}(b:NoRes M):KOv h s a W l (h'++M):=
 ⟨k.pre.app b,zf k.set_,let ⟨y,q1,q2⟩:=k.reg;⟨y,zf q1,q2⟩,let ⟨y,q1,q2⟩:=k.ovr;⟨y,zf q1,q2⟩,zf k.wk⟩
theorem KOv.raw{h:List Ob}{s:Setup}{a:SA}{W:List Spn}{b:List Int}{h':List Ob}(k:KOv h s a W b h'){j l o ks us o'}(f:h.length<=j)(d:h'[j]? =some (.raw l o ks us)):KOv h s a W b (h'.set j (.raw l o' ks us)):=by
 have c:∀(z:Nat) t cs,h'[z]? =some (.box t cs)->(h'.set j (.raw l o' ks us))[z]? =some (.box t cs):=λz t cs q=>by
  have:j≠z:=λe=>by rw[e,q] at d;cases d
  rw[zc this];exact q
 exact⟨k.pre.set f rfl,c _ _ _ k.set_,let ⟨y,q1,q2⟩:=k.reg;⟨y,c _ _ _ q1,q2⟩,let ⟨y,q1,q2⟩:=k.ovr;⟨y,c _ _ _ q1,q2⟩,c _ _ _ k.wk⟩
theorem KOv.put{h:List Ob}{s:Setup}{a:SA}{W:List Spn}{l l':List Int}{h':List Ob}(k:KOv h s a W l h'){M:List Ob}(f:NoRes M){y z:AV}(b:Sv y (yW s W l'))(e:Sv z (Zm s W l')):
  KOv h s a W l' (((h'++M).set (h.length+1) (.box 55 [y])).set (h.length+2) (.box 55 [z])):=by
 obtain⟨i,d,_⟩:=k.reg
 obtain⟨z0,c,_⟩:=k.ovr
 have g:=(zd.1 d).1
 have l2:=(zd.1 c).1
 refine⟨((k.pre.app f).set (by omega) rfl).set (by omega) rfl,?_,⟨y,?_,b⟩,⟨z,?_,e⟩,?_⟩
 ·rw[zc (by omega),zc (by omega)];exact zf k.set_
 ·rw[zc (by omega),zm (by rw[ze];omega)]
 ·rw[zm (by rw[zP,ze];omega)]
 ·rw[zc (by omega),zc (by omega)];exact zf k.wk
theorem KOv.raws{h:List Ob}{s:Setup}{a:SA}{W:List Spn}{l:List Int}{h':List Ob}(k:KOv h s a W l h'){M:List Ob}{o o':Ob}:RawK h' (((h'++M).set (h.length+1) o).set (h.length+2) o'):=by
 obtain⟨d,b,_⟩:=k.reg
 obtain⟨z0,c,_⟩:=k.ovr
 exact(RawK.app.trans (.setB (zf b))).trans (.setB ((zc (by omega)).trans (zf c)))
theorem Wha(h:List Ob)(s:Setup)(a:SA)(k:SIn h s a)(f:SFit s)(P:qo s=true)(x:AV)(p:List Spn)(w:Int)(u:SlOf h x 2 (p.map qq))(hl:p.length<262144):
  ACalls Tryz.prog 115 [jm s a,x,i64 w] h λr h'=>r= .tup [spv (QR s p w).1,spv (QR s p w).2.1,spv (QR s p w).2.2]/\h'=h:=by
 have ht:=Kk P
 refine KG Tryz.f115 [.tmp 6,.tmp 7,.tmp 8] 49 rfl rfl rfl rfl rfl rfl (⟨_,rfl⟩) λbs=>?_
 refine xM (by decide) ?_
 simp only[go_sem,k.ones]
 refine xM (by decide) ?_
 simp only[go_sem,k.ones]
 refine zi (c16 _ s a (k.app _) f) ?_
 rintro _ h1 ⟨rfl,rfl⟩
 simp only[go_sem,P,qE,Bool.not_true]
 refine xM (by decide) ?_
 simp only[go_sem]
 refine xM (by decide) ?_
 simp only[go_sem]
 refine zi (k1a _ x p w (u.app _) (by omega)) ?_
 rintro _ h1 ⟨rfl,rfl⟩
 simp only[go_sem]
 have β:(jh p w).length<=(qg p).length+1:=Zy _ _ _
 have τ:=z6 p
 obtain⟨W,hW⟩:∃W,W=jh p w:=⟨_,rfl⟩
 have U:QR s p w=(qv (yW s W (qA W)) s.weekReg,jo (Zm s W (qA W)) (qv (yW s W (qA W)) s.weekReg),jo W (Zm s W (qA W))):=by rw[hW];rfl
 rw[U]
 rw[<-hW] at β⊢
 refine VU ?_
 refine xM (by decide) ?_
 simp only[go_sem]
 refine zi (wGa _ W) ?_
 rintro _ h1 ⟨rfl,rfl⟩
 simp only[go_sem]
 have ο:=wQ W
 have base:KOv h s a W ((qA W).take 0) (h++[.box 30 (qa s a),.box 55 [.v (.slice none 0 0)],.box 55 [.v (.slice none 0 0)],.box 55 [spv W]]):=
  ⟨⟨_,rfl,zp rfl (zp rfl (zp rfl (zF rfl)))⟩,by rw[zM rfl];rfl,⟨_,by rw[zN (k:=1) rfl];rfl,.inr ⟨rfl,rfl⟩⟩,⟨_,by rw[zN (k:=2) rfl];rfl,.inr ⟨rfl,rfl⟩⟩,by rw[zN (k:=3) rfl];rfl⟩
 refine kXa (KE (YP (V9 (p:=22) (by decide) rfl (by simp only[go_sem]) (Jwa (h.length+3) W (by omega))
  (λn h'=>KOv h s a W ((qA W).take n) h')
  (λn x C A=>C 3= .ptr h.length 0/\C 9= .ptr (h.length+1) 0/\C 10= .ptr (h.length+2) 0/\∃d j,(qA W)[n]? =some d/\C 12= .ptr j 0/\A[j]? =some (.box 55 [spv (xf W d)])/\j≠h.length+1/\j≠h.length+2/\KOv h s a W ((qA W).take n) A)
  ?_ (λn h' M E k=>k.app E) (λn h' k=>k.wk) ?_ ?_ ?_ ?_ ?_) ?_))
 ·exact λM E=>base.app E
 ·intro M E
  have q:=(base.app E).put (M:=[]) (l':=(qA W).take ((qA W).map (Km W)).length) xr (.inl rfl) (.inl rfl)
  refine⟨_,q,(base.app E).pre.resK q.pre,(base.app E).raws⟩
 ·intro n h' j l o ks us o' Y k N
  exact k.raw (Nat.le_trans (by rw[ze];exact Nat.le_add_right _ _) Y) N
 ·rintro n x C A j l o ks us o' Y ⟨t3,t9,t10,d,m,q1,T,J,q4,q5,k⟩ N
  refine⟨t3,t9,t10,d,m,q1,T,?_,q4,q5,k.raw (Nat.le_trans (by rw[ze];exact Nat.le_add_right _ _) Y) N⟩
  have:j≠m:=λe=>by rw[e,J] at N;cases N
  rw[zc this];exact J
 ·intro bb l n x h' u k
  rw[zr] at u
  cases hs:(qA W)[n]? with
  | none=>rw[hs] at u;cases u
  | some d=>
    rw[hs] at u
    injection u with u
    subst u
    refine ZR (by decide) (by decide) ?_
    have ρ:=(zd.1 k.wk).1
    simp only[go_sem,Zka,Km]
    exact⟨⟨d,h'.length,rfl,rfl,by rw[zM rfl];rfl,by omega,by omega,k.app (zF rfl)⟩,.app,.app⟩
 ·rintro bb l n x C A u ⟨t3,t9,t10,d,m,q1,T,J,q4,q5,k⟩
  obtain⟨y,S,O⟩:=k.reg
  obtain⟨z,H,I⟩:=k.ovr
  refine YK (QZa (ZR (by decide) (by decide) ?_))
  simp only[go_sem,T]
  refine y0a rfl [.res,.res] 2 [(1,0,[]),(2,0,[]),(8,0,[]),(9,0,[]),(0,0,[]),(3,0,[]),(7,0,[]),(10,0,[]),(4,0,[0,7,10]),(5,0,[]),(6,0,[7,10]),(11,0,[7]),(12,1,[]),(13,0,[]),(14,0,[]),(15,0,[])] rfl (by decide) (by decide) (by decide) (λ_ _ q=>by cases q.1) ?_
  have i:∀M,(A++M)[h.length+1]? =some (.box 55 [y]):=λM=>zf S
  have c:∀M,(A++M)[h.length+2]? =some (.box 55 [z]):=λM=>zf H
  have b:∀M,(A++M)[h.length]? =some (.box 30 (qa s a)):=λM=>zf k.set_
  have X:=(O.sl (h:=h)).cells
  have γ:=(O.sl (h:=h)).one
  have Z:=(I.sl (h:=h)).cells
  have V:=(I.sl (h:=h)).one
  have g:=wA ((kJ W).1.sublist (List.take_sublist n _))
  have B:=wB W s.dayReg _ g
  have F:=wB W s.dayOver _ g
  rw[zX] at B F
  have υ:=ZA W d
  have hf1:(qv (xf W d) s.dayReg).length<=(qg (xf W d)).length:=xu _ _
  have ξ:(qv (xf W d) s.dayOver).length<=(qg (xf W d)).length:=xu _ _
  have φ:=z6 (xf W d)
  have hdr:=ht.dayReg
  have hdo:=ht.dayOver
  obtain⟨L,ε⟩:=zd.1 q1
  have e1:=ZOa (s:=s) (W:=W) L
  have e2:=ZPa (s:=s) (W:=W) L
  rw[ε] at e1 e2
  simp only[go_sem,t3,t9,t10,i,c,b]
  refine zi (ZNa _ m (xf W d) s.dayReg (zf J) (by omega) (by unfold Fit;omega)) ?_
  rintro _ G ⟨rfl,rfl⟩
  simp only[go_sem,γ,X,t3,t9,t10,i,c,b]
  refine zi (Wx _ A.length y _ (yW s W ((qA W).take n)) (qv (xf W d) s.dayReg) (by rw[zM rfl];rfl) O.sl (jK _) (by unfold yW;omega) (by omega)) ?_
  rintro _ G ⟨rfl,rfl⟩
  rw[<-e1]
  simp only[go_sem,t3,t9,t10,i,c,b]
  refine zi (ZNa _ m (xf W d) s.dayOver (zf J) (by omega) (by unfold Fit;omega)) ?_
  rintro _ G ⟨rfl,rfl⟩
  simp only[go_sem,V,Z,t3,t9,t10,i,c,b]
  refine zi (Wx _ (A.length+1) z _ (Zm s W ((qA W).take n)) (qv (xf W d) s.dayOver) (by rw[zN (k:=1) rfl];rfl) I.sl (jK _) (by unfold Zm;omega) (by omega)) ?_
  rintro _ G ⟨rfl,rfl⟩
  rw[<-e2]
  have ne:h.length+1≠h.length+2:=by omega
  simp only[go_sem,t3,t9,t10,i,c,b,zc,ne,ne_eq,not_false_eq_true]
  exact⟨k.put (zp rfl (zF rfl)) (.inl rfl) (.inl rfl),k.raws,(KeepB.app.trans (.setL (by omega))).trans (.setL (by omega))⟩
 ·rintro e ds C A ⟨rfl,rfl,D,id,rfl,hid,K,k⟩
  rw[ze] at hid
  rw[zb,zY] at k
  obtain⟨y,S,O⟩:=k.reg
  obtain⟨z,H,I⟩:=k.ovr
  have Q:=k.pre
  have b:=k.set_
  have g:=wA (kJ W).1
  have B:=wB W s.dayReg _ g
  have F:=wB W s.dayOver _ g
  have ω:=ht.weekReg
  have hl1:(yW s W (qA W)).length<=W.length+(qA W).length:=B
  have σ:(Zm s W (qA W)).length<=W.length+(qA W).length:=F
  refine⟨rfl,(xM (by decide) ?_:Jn _ _ _ _ _ _ _ _)⟩
  simp only[go_sem,S,H,b]
  refine zi (zWa _ y (yW s W (qA W)) s.weekReg O.sl (by omega) (by unfold Fit;omega)) ?_
  rintro _ G ⟨rfl,rfl⟩
  simp only[go_sem]
  obtain⟨t,R⟩:∃t,t=qv (yW s W (qA W)) s.weekReg:=⟨_,rfl⟩
  have ψ:t.length<=(qg (yW s W (qA W))).length:=by rw[R];exact xu _ _
  have χ:=z6 (yW s W (qA W))
  rw[<-R]
  refine kXa (YQ (by decide) ?_)
  simp only[go_sem]
  refine zV rfl [] 0 [(0,0,[]),(2,0,[]),(4,0,[]),(1,0,[]),(5,0,[]),(3,0,[5]),(6,0,[]),(7,0,[]),(8,0,[]),(9,0,[])] rfl (by decide) (by decide) ?_
  simp only[go_sem,S,H]
  refine zi (JX _ z _ (Zm s W (qA W)) t I.sl (jK _) (by omega) (by omega)) ?_
  rintro _ G ⟨rfl,rfl⟩
  simp only[go_sem,H]
  refine zi (JX _ _ z W (Zm s W (qA W)) (jK _) I.sl (by omega) (by omega)) ?_
  rintro _ G ⟨rfl,rfl⟩
  simp only[go_sem,S,H]
  exact Zpa (.inr ⟨D,id,rfl,by omega,K⟩) Q (r:= .tup [spv t,spv (jo (Zm s W (qA W)) t),spv (jo W (Zm s W (qA W)))]) (λ_=>rfl) (Jva _ _ _) rfl
open Go.Shelf Go.RowKit Go.Lib Go.Sort
def Zf{α:Type}(enc:α->List Value)(l:List α):List Value:=(l.map enc).flatten
theorem Kn{α:Type}(enc:α->List Value)(K:Nat)(a:∀x,(enc x).length=K):∀l:List α,(Zf enc l).length=l.length*K
 | []=>by simp[Zf]
 | x::l=>by
   have:=Kn enc K a l
   simp only[Zf,List.map_cons,List.flatten_cons,ze,List.length_cons,a] at this⊢
   rw[this,Nat.succ_mul];omega
theorem kba{α:Type}(enc:α->List Value):∀l:List α,(l.map λx=>(enc x).map AV.v).flatten=(Zf enc l).map .v
 | []=>rfl
 | x::l=>by
   have:=kba enc l
   simp only[Zf,List.map_cons,List.flatten_cons,zy] at this⊢
   rw[this]
section
variable {α:Type} [Inhabited α] (enc:α->List Value) (K:Nat)
theorem WB(f:0<K)(a:∀x,(enc x).length=K):∀(l:List α) (t:Nat),t<l.length*K->(Zf enc l)[t]? =some ((enc l.toArray[t / K]!)[t % K]!)
 | [],t,h=>by simp at h
 | x::l,t,h=>by
   by_cases b:t<K
   ·have d:(Zf enc (x::l))[t]? =(enc x)[t]? :=by
     simp only[Zf,List.map_cons,List.flatten_cons]
     rw[zC (by rw[a];exact b)]
    have e:t<(enc x).length:=by rw[a];exact b
    rw[d,Nat.div_eq_of_lt b,Nat.mod_eq_of_lt b,zh e]
    simp[getElem!_pos (enc x) t e]
   ·have d:(Zf enc (x::l))[t]? =(Zf enc l)[t - K]? :=by
     simp only[Zf,List.map_cons,List.flatten_cons]
     rw[zI (by rw[a];omega),a]
    have c:t - K<l.length*K:=by rw[List.length_cons,Nat.succ_mul] at h;omega
    rw[d,WB f a l _ c]
    have g:t / K=(t - K) / K+1:=by rw[Nat.div_eq_sub_div f (by omega)]
    have i:t % K=(t - K) % K:=Nat.mod_eq_sub_mod (by omega)
    rw[g,i]
    simp
theorem jva(c:0<K)(a:∀x,(enc x).length=K)(l:List α):(flatK enc K l.toArray).toList=Zf enc l:=by
 apply qD
 intro t
 by_cases b:t<l.length*K
 ·rw[WB enc K c a l t b]
  simp[flatK,b]
 ·rw[qf (by simp;omega),qf (by rw[Kn enc K a];omega)]
theorem KFa{P:Program}{f Q:FuncId}{ty:TypeId}(hK:0<K)(m:∀x,(enc x).length=K)(lt:α->α->Bool)(F:JF P f=true)
  (hex:∀l:List α,∃l':List α,l'.Perm l/\l'.Pairwise λa b=>lt b a=false)
  (hc:∀(blk off cap:Nat) (d:Array α) (w:World),HoldsK enc K w blk off d->blk<w.heap.size->d.size<4611686018427387904->Calls P f #[.slice (some ⟨blk,off,none⟩) d.size cap,.func (.func Q) #[] #[]] w λe w'=>e= .returned (.tuple #[])/\∃c n os,PermIn 0 d.size d c/\SortedIn lt 0 d.size c/\w'=sortWorldK enc K w blk off n c os)
  (S:∀(A:Option Addr) (cap:Nat) (w:World),Calls P f #[.slice A 0 cap,.func (.func Q) #[] #[]] w λe w'=>e= .returned (.tuple #[])/\w'=w)
  (h:List Ob) (id st:Nat) (l:List α) (N:h[id]? =some (.row ty K (l.map λx=>(enc x).map .v) st)) (hl:l.length<1099511627776):
  ACalls P f [.tl id st,.fn (.func Q) [] []] h λr h'=>r= .tup []/\∃l':List α,l'.Perm l/\(l'.Pairwise λa b=>lt b a=false)/\h'=h.set id (.row ty K (l'.map λx=>(enc x).map .v) st):=by
 refine⟨F,?_,?_⟩
 ·obtain⟨l',q1,L⟩:=hex l
  exact⟨_,_,⟨rfl,l',q1,L,rfl⟩,qH N rfl⟩
 ·intro φ hu B w g vs Z hB y
  have z:(fill φ h)[id]? =some (.row ty K (l.map λx=>(enc x).map .v) st):=qy N rfl
  obtain⟨v1,r1,rfl,⟨_,V,G⟩,v2,r2,rfl,⟨us,vs,rfl,q,p⟩,T⟩:=y
  have T:r2=[]:=T
  subst T
  have q:us.toList=[]:=q
  have p:vs.toList=[]:=p
  have q:us= #[]:=by simpa using q
  have p:vs= #[]:=by simpa using p
  subst q;subst p
  have e0:v1=g.cur id:=(G st (by simp[ctx,z,Ob.tok])).2 rfl
  obtain⟨q0,q1,cells,L,q3⟩:=Z.ok id _ z
  rw[kba] at q3
  have e1:=We q3
  subst e1
  by_cases J:l=[]
  ·subst J
   have R:∃A k,g.cur id= .slice A 0 k:=by
    rcases L.2 with⟨o,_⟩|⟨C,cap,cur,o,_⟩
    ·exact⟨_,_,o⟩
    ·exact⟨_,_,o⟩
   obtain⟨A,k,R⟩:=R
   rw[e0,R]
   refine(S A k w).mono ?_
   rintro e w' ⟨rfl,rfl⟩
   exact⟨_,_,_,_,rfl,⟨rfl,[],.refl _,.nil,(qX N).symm⟩,.refl,Good.refl Z hB, #[],rfl,rfl⟩
  rcases L.2 with⟨_,o⟩|⟨C,cap,cur,o,e4,M,Y,e7,e8,e9⟩
  ·exfalso
   simp at o
   exact J o
  ·have o:g.cur id=_:=o
   simp only[zb] at o Y e9
   have O:l.length*K<=cur.size:=by rw[e8];exact Nat.mul_le_mul_right _ Y
   have X:∀j,j<l.length*K->cur[j]? =some ((enc l.toArray[j / K]!)[j % K]!):=λj u=>by
    rw[<-WB enc K hK m l j u, <-e9,qO,if_pos u,qB]
   have hH:HoldsK enc K w C 0 l.toArray:=λj u=>by
    have u:j<l.length*K:=by simpa using u
    refine⟨?_,?_⟩
    ·simp only[World.cell?,M,Nat.zero_add]
     rw[get_flatK _ _ _ _ (by simpa using u)]
     exact X j u
    ·simp[World.frozen?,M]
   have s:=hc C 0 cap l.toArray w hH (qm.1 M).1 (by simp;omega)
   rw[e0,o]
   have W:l.toArray.size=l.length:=by simp
   rw[W] at s
   refine s.mono ?_
   rintro e w' ⟨rfl,c,n,os,hp,hs,rfl⟩
   obtain⟨p1,p2,p3⟩:=hp
   have I:c.size=l.length:=by rw[p1];simp
   have D:c.toList.Perm l:=by
    have a1:c.extract 0 l.length=c:=by rw[<-I];simp
    have a2:l.toArray.extract 0 l.length=l.toArray:=by simp
    rw[a1,a2] at p3
    exact p3
   have E:c.toList.Pairwise λa b=>lt b a=false:=by
    rw[List.pairwise_iff_getElem]
    intro i j hi u U
    simp only[qP] at hi u
    have:=hs i j (by omega) U (by omega)
    rw[getElem!_pos c i hi,getElem!_pos c j u] at this
    simpa using this
   have hF:(flatK enc K c).toList=Zf enc c.toList:=jva enc K hK m c.toList
   have H:(flatK enc K c).size=l.length*K:=by simp[I]
   have t:=Xf (w':=sortWorldK enc K w C 0 n c os) (v':=g.cur id) (st':=st) (xs':=c.toList.map λx=>(enc x).map .v) (cells:=Zf enc c.toList) Z hB z (by simp[m]) (by rw[o];exact YR w C n _ os)
    ⟨by rw[Kn enc K m];simp,.inr ⟨C,cap,_,by simp[o,I],e4,q7a w C n _ os M,by simp[I];exact Y,e7,by simp[putCells];exact e8,by
     have:=q8a (flatK enc K c) cur (by rw[H];exact O)
     rw[hF,H] at this
     simpa [I] using this⟩⟩ (by rw[kba];exact Xd _) (.inl ⟨rfl,rfl⟩) (λb hb=> .inl hb)
   rw[<-jB rfl] at t
   exact⟨_,_,_,_,rfl,⟨rfl,c.toList,D,E,rfl⟩,qH N rfl,t, #[],rfl,rfl⟩
end
structure Pt where
 from_:Int
 to_:Int
 kind:Int
instance:Inhabited Pt:=⟨⟨0,0,0⟩⟩
def k9a(x:Pt):List Value:=[.int .i64 x.from_,.int .i64 x.to_,.int .i64 x.kind]
def ptC(x:Pt):List AV:=[i64 x.from_,i64 x.to_,i64 x.kind]
theorem XLa{n:Nat}:∀l:List Pt,qZ n (l.map ptC)=true
 | []=>rfl
 | s::l=>by
   rw[List.map_cons,qZ,XLa l];rfl
set_option maxHeartbeats 1000000 in
theorem wHa(x y:Pt)(W:World):Calls Tryz.prog 121 #[.agg #[.int .i64 x.from_,.int .i64 x.to_,.int .i64 x.kind],.agg #[.int .i64 y.from_,.int .i64 y.to_,.int .i64 y.kind]] W λe w'=>e= .returned (.int .i64 (Lib.compareInt x.from_ y.from_))/\∃q b,w'=grow (W.drewN q) b:=by
 have a:=λc=>AnyG.cmp_Compare_int Zqa x.from_ y.from_ c
 change ∀c,Calls Tryz.prog 122 _ _ _ at a
 generalize Lib.compareInt x.from_ y.from_=r at a⊢
 go_enter Tryz.func121,Tryz.ntmps121
 go_wp2_with (go_at_call 122;refine(a _).mono ?_;rintro e w' ⟨rfl,rfl⟩)
 go_ret
 exact⟨rfl,0,_,by rw[alloc_eq_grow,alloc_eq_grow,grow_grow];rfl⟩
theorem wIa(blk off size:Nat)(w:World):CmpLays Tryz.prog 121 #[] k9a 3 (λx y=>Lib.compareInt x.from_ y.from_) blk off size w:=
 λ_ _ _ _ x y=>wHa x y _
theorem Jxa(x y:Pt):ltOf (λx y:Pt=>Lib.compareInt x.from_ y.from_) x y=decide (x.from_<y.from_):=by
 unfold ltOf Lib.compareInt
 by_cases a:x.from_<y.from_
 ·simp[a]
 ·by_cases b:y.from_<x.from_<;>simp[a,b]
theorem Wia:SWO (ltOf λx y:Pt=>Lib.compareInt x.from_ y.from_):=
 { irrefl:=λx=>by rw[Jxa];simp
   trans:=λx y z b a=>by rw[Jxa] at *; simp at *; omega
   ntrans:=λx y z b a=>by rw[Jxa] at *; simp at *; omega }
theorem Jya(h:List Ob)(id st:Nat)(l:List Pt)(n:h[id]? =some (.row 194 3 (l.map ptC) st))(k:l.length<1099511627776):
  ACalls Tryz.prog 120 [.tl id st,.fn (.func 121) [] []] h λr h'=>r= .tup []/\∃l':List Pt,l'.Perm l/\(l'.Pairwise λa b=>ltOf (λx y:Pt=>Lib.compareInt x.from_ y.from_) b a=false)/\h'=h.set id (.row 194 3 (l'.map ptC) st):=by
 refine KFa k9a 3 (by decide) (λ_=>rfl) (ltOf λx y:Pt=>Lib.compareInt x.from_ y.from_) (by kernel_rfl) (λl=>?_) ?_ ?_ h id st l n k
 ·refine⟨_,List.mergeSort_perm l (λa b=>decide (a.from_<=b.from_)),?_⟩
  have:=List.pairwise_mergeSort (le:=λa b:Pt=>decide (a.from_<=b.from_)) (λa b c p o=>by simp at *; omega) (λa b=>by simp;omega) l
  exact this.imp λh=>by rw[Jxa];simpa using h
 ·intro blk off cap d w j f g
  have m:∀args w,(callFunc 121 args).run Tryz.prog w= .ok (.enter 121 args) w:=enters_of Tryz.func121 (by kernel_rfl) rfl
  have e:=AnyQ.slices_SortFunc WC 3 Tryz.isAgg194 Tryz.sizeOf194 k9a (λ_=>rfl) (λx v i=>by simp[k9a] at i;rcases i with rfl|rfl|rfl<;>rfl) (λx y=>Lib.compareInt x.from_ y.from_) Wia 121 #[] blk off cap d w m (wIa blk off d.size w) j f g
  exact e
 ·intro A cap w
  have e:=AnyF.slices_SortFunc_none WC A cap (.func (.func 121) #[] #[]) w
  exact e
theorem ZQa(x:AV):xv Tryz.prog 120 [.v (.slice none 0 0),x] (.tup []):=λh=>by
 refine⟨by kernel_rfl,⟨_,_,⟨rfl,rfl⟩,.refl⟩,?_⟩
 intro φ k B w g vs i hB a
 obtain⟨v1,l,rfl,d,f,j,rfl,_,c⟩:=a
 have c:j=[]:=c
 subst c
 have d:v1= .slice none 0 0:=d
 subst d
 have b:=AnyF.slices_SortFunc_none WC none 0 f w
 refine Calls.mono b ?_
 rintro e w' ⟨rfl,rfl⟩
 exact⟨_,_,_,_,rfl,⟨rfl,rfl⟩,.refl,Good.refl i hB, #[],rfl,rfl⟩
def yX(l:List Spn)(k:Int):List Pt:=l.map λs=>⟨s.from_,s.to_,k⟩
theorem wR(l:List Spn)(k:Int):(yX l k).length=l.length:=by simp[yX]
theorem KGa(F:List (Nat × Ob))(h0 h:List Ob)(i:Nat)(p:List Pt)(l:List Spn)(a:Int)(k:LIn F h0 h i 126 194 3 (p.map ptC))(O:p.length<1073741824)(L:l.length<1073741824):
  ACalls Tryz.prog 116 [spv l,i64 a,.ptr i 0] h λr h'=>r= .tup []/\LIn F h0 h' i 126 194 3 ((p++yX l a).map ptC):=by
 have hex:∃r h',(r=AV.tup []/\LIn F h0 h' i 126 194 3 ((p++yX l a).map ptC))/\ResK h h':=by
  obtain⟨h',J,D⟩:=k.any ((p++yX l a).map ptC)
  exact⟨_,h',⟨rfl,J⟩,D⟩
 refine zl Tryz.f116 [] 23 rfl rfl rfl rfl rfl rfl (by decide) (hex) λB=>?_
 simp only[go_sem,zb]
 refine zO (by decide) (λm T h'=>∃n:Nat,n<=l.length/\LIn F h0 h' i 126 194 3 ((p++yX (l.take n) a).map ptC)/\T 1=i64 a/\T 2= .ptr i 0/\T 7=spv l/\T 8=i64 l.length/\T 9=i64 n/\m=l.length - n) l.length
  ⟨0,by omega,by simpa [yX] using k,by simp only[go_sem],by simp only[go_sem],by simp only[go_sem],by(simp only[go_sem]<;>rfl),by(simp only[go_sem]<;>rfl),rfl⟩ ?_
 clear k hex
 rintro m T h' ⟨n,N,k,t1,t2,A,t8,t9,rfl⟩
 simp only[go_sem,t8,t9]
 refine ways (λe=>?_) (λe=>?_)
 ·have t:=dlt e
  have c:=Z5 t
  have j:(n:Int)<l.length:=by omega
  have b:(p++yX (l.take (n+1)) a).map ptC=(p++yX (l.take n) a).map ptC++[[i64 (l[n]).from_,i64 (l[n]).to_,i64 a]]:=by
   rw[show l.take (n+1)=l.take n++[l[n]] from(zD t).symm]
   simp only[yX,zy,List.map_cons,List.map_nil,zn]
   rfl
  have f:((p++yX (l.take n) a).length+1)*25<=140737488355328:=by
   rw[ze,wR,zX];omega
  obtain⟨z,G⟩:∃z,z=l[n]:=⟨_,rfl⟩
  rw[<-G] at c b
  obtain⟨P,K⟩:∃P,P=(p++yX (l.take n) a):=⟨_,rfl⟩
  rw[<-K] at b f k
  obtain⟨I,d,y⟩:=k.at_
  have hi:=k.lt
  have g:∀M,(h'++M)[i]? =some (.box 126 [I]):=λM=>zf d
  rcases y with⟨rfl,o⟩|⟨id,st,H,rfl,u⟩
  ·simp only[go_sem,t1,t2,A,t9,c,j,d,g,zb,Int.toNat_natCast,zg]
   rw[o,List.nil_append] at b
   have q:=k.push_nil (M:=[.box 143 (qq z),.row 194 3 [[i64 z.from_,i64 z.to_,i64 a]] 0,.row 194 3 [[i64 z.from_,i64 z.to_,i64 a]] 0]) (zp rfl (zp rfl (zF rfl))) (id:=h'.length+2) (by omega) (by rw[zN (k:=2) rfl];rfl)
   rw[<-b] at q
   exact⟨l.length - (n+1),by omega,n+1,by omega,by rw[b] at q ⊢;exact q,t8,qc (by omega) rfl,rfl⟩
  ·have E:∀M,(h'++M)[id]? =some (.row 194 3 (P.map ptC) st):=λM=>zf u
   have v:id≠i:=λq=>by rw[q,d] at u;cases u
   have s:∀M o',((h'++M).set id o')[i]? =some (.box 126 [.tl id st]):=λM o'=>by
    rw[zc v];exact g M
   simp only[go_sem,t1,t2,A,t9,c,j,d,g,E,s,f,zb,Int.toNat_natCast,zg]
   have w:∀M,NoRes M->LIn F h0 (((h'++M).set id (.row 194 3 (P.map ptC++[[i64 z.from_,i64 z.to_,i64 a]]) (st+1))).set i (.box 126 [.tl id (st+1)])) i 126 194 3 ((p++yX (l.take (n+1)) a).map ptC):=λM w=>by
    rw[b];exact k.push_own w H u
   exact⟨l.length - (n+1),by omega,n+1,by omega,w _ (zp rfl (zF rfl)),t8,qc (by omega) rfl,rfl⟩
 ·have C:=xc e
  have x:n=l.length:=by omega
  subst x
  rw[zY] at k
  simp only[go_sem]
  exact⟨_,rfl,.inl ⟨rfl,k⟩⟩
theorem jwa{P:Program}{f:FuncId}{ar:List AV}{h:List Ob}{α:Type}{S:α->Prop}{g:α->List (List AV)}{e:Nat}(p:0<e)(s:∀q,qZ h.length (g q)=true)(c:ACalls P f ar h λr h'=>∃q,S q/\∃L,h'=h++L/\NoRes L/\New h e r (g q) L):ACalls P f ar h λr h'=>(∃q,S q/\r= .sl e (g q))/\h'=h:=by
 refine⟨c.1,(let ⟨_,_,⟨q,d,_⟩,_⟩:=c.2.1;⟨_,_,⟨⟨q,d,rfl⟩,rfl⟩,.refl⟩),λφ k B w o vs m hB b=>?_⟩
 refine(c.2.2 φ k B w o vs m hB b).mono λu w' ⟨v,r,h',g',t,⟨q,d,L,n,_,j⟩,_,i,l⟩=>?_
 subst n
 rw[jO k] at i l
 have a:(fill φ h).length=h.length:=qT
 refine⟨v,_,h,g',t,⟨⟨q,d,rfl⟩,rfl⟩,.refl,i.drop rfl (by have:=m.ids;exact this),?_⟩
 exact JM i.ok p l (j _ a) (λid hid=>by rw[a];exact j.root id hid) (by rw[a];exact s q)
def oj(o:List Spn × List Spn × List Spn):Nat->List Spn
 | 0=>o.1
 | 1=>o.2.1
 | _=>o.2.2
def Jo(s:Setup)(o:List Spn × List Spn × List Spn)(fr:List Spn):Nat->List Pt
 | 0=>yX fr 0
 | j+1=>Jo s o fr j++yX (jo (oj o j) (jL s (oj o j))) (1+j)++yX (jL s (oj o j)) (4+j)
def wg(s:Setup)(l:List Seg)(w:Int):List Pt:=Jo s (QR s (yR s l) w) (jh (we s l) w) 3
theorem Ko(s:Setup)(l:List Spn):(jL s l).length<=l.length+742:=by
 unfold jL
 split
 ·have c:=Wl l (vn s (qA l))
  have a:=z6 l
  have b:=z6 (vn s (qA l))
  have e:=Z7 s (qA l)
  have d:=wQ l
  omega
 ·simp
theorem jxa(s:Setup)(p:List Spn)(w:Int):(QR s p w).1.length<=p.length+372/\(QR s p w).2.1.length<=2*p.length+745/\(QR s p w).2.2.length<=2*p.length+745:=by
 have a:=wA (kJ (jh p w)).1
 have g:=wB (jh p w) s.dayReg _ a
 have b:=wB (jh p w) s.dayOver _ a
 have j:=wQ (jh p w)
 have o:(jh p w).length<=(qg p).length+1:=Zy _ _ _
 have n:=z6 p
 have k:(qv (yW s (jh p w) (qA (jh p w))) s.weekReg).length<=(qg (yW s (jh p w) (qA (jh p w)))).length:=xu _ _
 have i:=z6 (yW s (jh p w) (qA (jh p w)))
 have m:=j6 (Zm s (jh p w) (qA (jh p w))) (qv (yW s (jh p w) (qA (jh p w))) s.weekReg)
 have l:=j6 (jh p w) (Zm s (jh p w) (qA (jh p w)))
 have c:=z6 (Zm s (jh p w) (qA (jh p w)))
 have e:=z6 (jh p w)
 have f:=z6 (qv (yW s (jh p w) (qA (jh p w))) s.weekReg)
 have h:(yW s (jh p w) (qA (jh p w))).length<=(jh p w).length+(qA (jh p w)).length:=g
 have d:(Zm s (jh p w) (qA (jh p w))).length<=(jh p w).length+(qA (jh p w)).length:=b
 refine⟨?_,?_,?_⟩
 ·show(qv (yW s (jh p w) (qA (jh p w))) s.weekReg).length<=_;omega
 ·show(jo (Zm s (jh p w) (qA (jh p w))) (qv (yW s (jh p w) (qA (jh p w))) s.weekReg)).length<=_;omega
 ·show(jo (jh p w) (Zm s (jh p w) (qA (jh p w)))).length<=_;omega
theorem Jza(h:List Ob)(s:Setup)(a:SA)(k:SIn h s a)(f:SFit s)(u:qo s=true)(x:AV)(l:List Seg)(w:Int)(hx:SlOf h x 5 (l.map vb))(hl:l.length<32768):
  ACalls Tryz.prog 57 [jm s a,x,i64 w] h λr h'=>∃q:List Pt,q.Perm (wg s l w)/\∃L,h'=h++L/\NoRes L/\New h 3 r (q.map ptC) L:=by
 have hex:∃r h',(∃q:List Pt,q.Perm (wg s l w)/\∃L,h'=h++L/\NoRes L/\New h 3 r (q.map ptC) L)/\ResK h h':=
  ⟨.sl 3 _,_,⟨_,.refl _,[],rfl,xr,λ_ _=>⟨rfl,λ_=>rfl⟩⟩,q8⟩
 refine zl Tryz.f57 [.tmp 6] 68 rfl rfl rfl rfl rfl rfl (by decide) (hex) λB=>?_
 simp only[go_sem,k.ones]
 refine zi (c16 _ s a (k.app _) f) ?_
 rintro _ K ⟨rfl,rfl⟩
 simp only[go_sem,u,qE,Bool.not_true]
 refine zi (Wga _ s a (k.app _) f u x l (hx.app _) hl) ?_
 rintro _ K ⟨rfl,rfl⟩
 simp only[go_sem]
 have ω:=jta s l
 have χ:=jua s l
 refine zi (Wha _ s a (k.app _) f u _ (yR s l) w (jK _) (by omega)) ?_
 rintro _ K ⟨rfl,rfl⟩
 simp only[go_sem]
 refine zi (k1a _ _ (we s l) w (jK _) (by omega)) ?_
 rintro _ K ⟨rfl,rfl⟩
 simp only[go_sem]
 obtain⟨o,S⟩:∃o,o=QR s (yR s l) w:=⟨_,rfl⟩
 obtain⟨fr,t⟩:∃fr,fr=jh (we s l) w:=⟨_,rfl⟩
 have P:wg s l w=Jo s o fr 3:=by rw[S,t];rfl
 have β:=jxa s (yR s l) w
 have ι:fr.length<=(qg (we s l)).length+1:=by rw[t];exact Zy _ _ _
 have ξ:=z6 (we s l)
 rw[P]
 rw[<-S] at β
 rw[<-S, <-t]
 have D:∀j,(oj o j).length<=468401:=λj=>by
  unfold oj
  split<;>omega
 have b:∀j,(Jo s o fr j).length<=240000+j*2000000:=λj=>by
  induction j with
  | zero=>show(yX fr 0).length<=_;rw[wR];omega
  | succ j ih=>
    have K:=j6 (oj o j) (jL s (oj o j))
    have C:=z6 (oj o j)
    have h3:=z6 (jL s (oj o j))
    have h4:=Ko s (oj o j)
    have h5:=D j
    rw[Jo,ze,ze,wR,wR];omega
 have base:LIn [(h.length,Ob.box 30 (qa s a))] h (h++[.box 30 (qa s a),.box 126 [.v (.slice none 0 0)]]) (h.length+1) 126 194 3 (([]:List Pt).map ptC):=
  ⟨⟨_,rfl,zp rfl (zF rfl)⟩,by omega,(λz hz=>by rw[zJ] at hz;subst hz;exact⟨by show h.length≠h.length+1;omega,⟨_,_,rfl⟩,by rw[zM rfl];rfl⟩),_,by rw[zN (k:=1) rfl];rfl,.inl ⟨rfl,rfl⟩⟩
 refine zi (KGa _ h _ (h.length+1) [] fr 0 base (by decide) (by omega)) ?_
 rintro _ K ⟨rfl,k1⟩
 rw[List.nil_append] at k1
 simp only[go_sem]
 obtain⟨G,A⟩:∃G,G=AV.fn (.func 116) [] [.ptr (h.length+1) 0]:=⟨_,rfl⟩
 rw[<-A]
 refine zO (by decide) (λm T h'=>∃j:Nat,j<=3/\LIn [(h.length,Ob.box 30 (qa s a))] h h' (h.length+1) 126 194 3 ((Jo s o fr j).map ptC)/\T 3= .ptr h.length 0/\T 12= .ptr (h.length+1) 0/\T 13=G/\T 43= .ag [spv o.1,spv o.2.1,spv o.2.2]/\T 44=i64 j/\m=3 - j) 3
  ⟨0,by omega,k1,by simp only[go_sem],by simp only[go_sem],by simp only[go_sem],by simp only[go_sem],by(simp only[go_sem]<;>rfl),rfl⟩ ?_
 clear k1 base
 rintro m T h' ⟨j,hj,k1,t3,g,d,I,y,rfl⟩
 simp only[go_sem,y]
 refine ways (λe=>?_) (λe=>?_)
 ·have V:(j:Int)<3:=of_decide_eq_true e
  have J:j<3:=by omega
  have i:nth [spv o.1,spv o.2.1,spv o.2.2] j=spv (oj o j):=by
   have:j=0∨j=1∨j=2:=by omega
   rcases this with rfl|rfl|rfl<;>rfl
  have F:=D j
  have φ:=b j
  have γ:=b (j+1)
  have α:h'[h.length]? =some (.box 30 (qa s a)):=k1.keep (.head _)
  obtain⟨O,hO⟩:∃O,O=oj o j:=⟨_,rfl⟩
  have X:Jo s o fr (j+1)=Jo s o fr j++yX (jo O (jL s O)) (1+j)++yX (jL s O) (4+j):=by rw[hO];rfl
  rw[<-hO] at i F
  simp only[go_sem,t3,d,I,y,i,V,J,α,A,Nat.mul_one,Int.toNat_natCast,zg]
  refine zi (KDa _ s a (k1.pre.sin k) f _ O (jK _) (by omega)) ?_
  rintro _ C ⟨rfl,rfl⟩
  have υ:=Ko s O
  simp only[go_sem,d,A]
  refine zi (JX _ _ _ O (jL s O) (jK _) (jK _) (by omega) (by omega)) ?_
  rintro _ C ⟨rfl,rfl⟩
  have w1:IntKind.wrap .i64 (1+(j:Int))=1+(j:Int):=qb (n:=1+(j:Int)) (by unfold Fit;omega)
  have w2:IntKind.wrap .i64 (1+(j:Int)+3)=4+(j:Int):=(qb (n:=1+(j:Int)+3) (by unfold Fit;omega)).trans (by omega)
  have hml:=j6 O (jL s O)
  have ζ:=z6 O
  have θ:=z6 (jL s O)
  simp only[go_sem,d,A,w1]
  refine zi (KGa _ h _ (h.length+1) (Jo s o fr j) (jo O (jL s O)) (1+j) k1 (by omega) (by omega)) ?_
  rintro _ C ⟨rfl,k2⟩
  simp only[go_sem,d,A,w1,w2]
  refine zi (KGa _ h _ (h.length+1) _ (jL s O) (4+j) k2 (by rw[ze,wR];omega) (by omega)) ?_
  rintro _ h3 ⟨rfl,k3⟩
  rw[<-X] at k3
  simp only[go_sem,y]
  exact⟨3 - (j+1),by omega,j+1,by omega,k3,t3,g,by rw[d,A],I,qc (by omega) rfl,rfl⟩
 ·have ο:¬ (j:Int)<3:=of_decide_eq_false e
  have U:j=3:=by omega
  subst U
  obtain⟨x2,c,M⟩:=k1.at_
  have ha3:=b 3
  have p:=k1.pre
  have μ:AV.cells x2=some [x2]:=M.rows.cells
  rcases M with⟨rfl,H⟩|⟨id,st,u1,rfl,N⟩
  ·simp only[go_sem,g,c]
   refine zi (ZQa _ _) ?_
   rintro _ C ⟨rfl,e2⟩
   rw[e2]
   simp only[go_sem,g,c]
   obtain⟨L,R,W⟩:=p
   exact⟨_,rfl,.inl ⟨Jo s o fr 3,.refl _,L,R,W,by rw[H];exact λC _=>⟨rfl,λh=>absurd rfl h⟩⟩⟩
  ·simp only[go_sem,g,c]
   refine zi (Jya _ id st _ N (by omega)) ?_
   rintro _ C ⟨rfl,q,q1,q2,rfl⟩
   have Y:id≠h.length+1:=λq=>by rw[q,c] at N;cases N
   have Q:(h'.set id (.row 194 3 (q.map ptC) st))[h.length+1]? =some (.box 126 [.tl id st]):=by rw[zc Y];exact c
   simp only[go_sem,g,Q]
   have Z:Pre h (h'.set id (.row 194 3 (q.map ptC) st)):=p.set u1 rfl
   have E:OwnS h (h'.set id (.row 194 3 (q.map ptC) st)) 194 3 (.tl id st) (q.map ptC):= .inr ⟨id,st,u1,rfl,zm (zd.1 N).1⟩
   obtain⟨L,R,W⟩:=Z
   rw[R] at E⊢
   exact⟨_,rfl,.inl ⟨q,q1,L,rfl,W,E.new (zo _)⟩⟩
theorem KHa(h:List Ob)(s:Setup)(a:SA)(k:SIn h s a)(f:SFit s)(b:qo s=true)(x:AV)(l:List Seg)(w:Int)(d:SlOf h x 5 (l.map vb))(c:l.length<32768):
  ACalls Tryz.prog 57 [jm s a,x,i64 w] h λr h'=>(∃q:List Pt,q.Perm (wg s l w)/\r= .sl 3 (q.map ptC))/\h'=h:=
 jwa (by decide) (λq=>XLa q) (Jza h s a k f b x l w d c)
end Go.Proofs.YtigdlmpjijhpaaaGreat.Ax
namespace Go.Proofs.YtigdlmpjijhpaaaGreat.Ax
open Go Go.Proofs
set_option maxRecDepth 100000
def wC(f:Nat->Int):List AV:=[i64 (f 0),i64 (f 1),i64 (f 2),i64 (f 3),i64 (f 4),i64 (f 5),i64 (f 6)]
theorem jya(f:Nat->Int){k:Nat}(a:k<7)(v:Int):lay (wC f) k [i64 v]=some (wC λj=>if j=k then v else f j):=by
 have:k=0∨k=1∨k=2∨k=3∨k=4∨k=5∨k=6:=by omega
 rcases this with rfl|rfl|rfl|rfl|rfl|rfl|rfl<;>rfl
theorem ZRa(f:Nat->Int){k:Nat}(a:k<7):nth (wC f) k=i64 (f k):=by
 have:k=0∨k=1∨k=2∨k=3∨k=4∨k=5∨k=6:=by omega
 rcases this with rfl|rfl|rfl|rfl|rfl|rfl|rfl<;>rfl
theorem WD(f:Nat->Int):cut (wC f) 0 7=some (wC f):=rfl
theorem jza(f g:Nat->Int):lay (wC f) 0 (wC g)=some (wC g):=rfl
theorem ZSa(f:Nat->Int):(wC f).all AV.one=true:=rfl
theorem ZTa(f:Nat->Int):(wC f).length=7:=rfl
attribute [go_sem] WD jza ZSa ZTa
def ptS(p:Pt):Spn:=⟨p.from_,p.to_⟩
def wo(q:List Pt)(k:Int):List Spn:=(q.filter λp=>p.kind==k).map ptS
theorem kca(q:List Pt)(k:Int)(p:Pt):wo (q++[p]) k=if p.kind==k then wo q k++[ptS p] else wo q k:=by
 unfold wo
 rw[je,zy]
 cases h:p.kind==k<;>simp[h]
theorem Y6(q:List Pt)(k:Int):(wo q k).length<=q.length:=by
 unfold wo
 rw[zb]
 exact qt _ q
def yY(q:List Pt)(k:Int):Int:=jy (qg (wo q k))
theorem KIa{l:List Pt}{i:Nat}(h:i<l.length):(l.map ptC)[i]? =some (ptC l[i]):=by rw[zr,zh h];rfl
theorem kda{q:List Pt}{n:Nat}(h:n<q.length)(k:Int):wo (q.take (n+1)) k=if(q[n]).kind==k then wo (q.take n) k++[ptS q[n]] else wo (q.take n) k:=by
 rw[show q.take (n+1)=q.take n++[q[n]] from(zD h).symm,kca]
theorem Jf{h0 h':List Ob}{i id:Nat}{ty e:Nat}{rows:List (List AV)}{st:Nat}{o:Ob}{t:TypeId}{cs:List AV}(a:h'[i]? =some (.box t cs))(b:h'[id]? =some (.row ty e rows st)):(h'.set id o)[i]? =some (.box t cs):=by
 have:id≠i:=λq=>by rw[q,a] at b;cases b
 rw[zc this];exact a
set_option maxHeartbeats 1000000 in
theorem JAa(h:List Ob)(x:AV)(q:List Pt)(O:SlOf h x 3 (q.map ptC))(Y:q.length<1048576):
  ACalls Tryz.prog 56 [x] h λr h'=>r= .ag (wC λj=>yY q j)/\h'=h:=by
 refine zl Tryz.f56 [.cell 2 42] 35 rfl rfl rfl rfl rfl rfl (by decide) (⟨_,_,⟨rfl,rfl⟩,.refl⟩) λB=>?_
 simp only[go_sem]
 refine zO (by decide) (λm T h'=>∃k:Nat,k<=7/\Pre h h'/\h'[h.length]? =some (.box 42 (wC λj=>if j<k then yY q j else 0))/\T 0=x/\T 2= .ptr h.length 0/\T 7=i64 k/\m=7 - k) 7
  ⟨0,by omega,⟨_,rfl,zF rfl⟩,by rw[zM rfl];rfl,by simp only[go_sem],by simp only[go_sem],by(simp only[go_sem]<;>rfl),rfl⟩ ?_
 rintro m T h' ⟨k,Z,b,c,t0,t2,o,rfl⟩
 simp only[go_sem,o]
 refine ways (λe=>?_) (λe=>?_)
 ·have J:(k:Int)<7:=of_decide_eq_true e
  have u:k<7:=by omega
  have p:=(b.sl O).rows
  simp only[go_sem,t0,o,p,zb]
  refine zO (by decide) (λm T s=>∃n:Nat,n<=q.length/\Pre h s/\s[h.length]? =some (.box 42 (wC λj=>if j<k then yY q j else 0))/\OwnS h s 143 2 (T 4) ((wo (q.take n) k).map qq)/\T 0=x/\T 2= .ptr h.length 0/\T 3=i64 k/\T 7=i64 k/\T 10=x/\T 11=i64 q.length/\T 12=i64 n/\m=q.length - n) q.length
   ⟨0,by omega,b,c,.inl ⟨by simp only[go_sem],rfl⟩,by simp only[go_sem,t0],by simp only[go_sem,t2],by(simp only[go_sem]<;>rfl),by simp only[go_sem,o],by simp only[go_sem,t0],by(simp only[go_sem]<;>rfl),by(simp only[go_sem]<;>rfl),rfl⟩ ?_
  clear t0 t2 o p c b
  rintro m T s ⟨n,hn,b,c,A,t0,t2,t3,o,t10,l,g,rfl⟩
  simp only[go_sem,l,g]
  refine ways (λF=>?_) (λF=>?_)
  ·have f:=dlt F
   have w:=b.sl O
   have K:=w.at (i:=n) (by simpa using f)
   have p:=w.rows
   have d:=KIa f
   have v:(n:Int)<q.length:=by omega
   have a:=kda f k
   obtain⟨y,W⟩:∃y,y=q[n]:=⟨_,rfl⟩
   rw[<-W] at d a
   have hA:List.length (ptC y)=3:=rfl
   have S:ptC y=[i64 y.from_,i64 y.to_,i64 y.kind]:=rfl
   rw[S] at d
   have fin:n+1<=q.length:=by omega
   simp only[go_sem,t3,t10,g,K,p,d,v,zb,Int.toNat_natCast,zg]
   refine ways (λz=>?_) (λz=>?_)
   ·rw[z] at a
    simp only[if_true] at a
    rcases A with⟨t4,I⟩|⟨id,st,P,t4,R⟩
    ·simp only[go_sem,t4,g]
     refine⟨q.length - (n+1),by omega,n+1,fin,b.app (zp rfl (zp rfl (zF rfl))),zf c,.inr ⟨_,_,by have:=b.len;omega,rfl,?_⟩,t0,t2,t3,o,t10,l,qc (by omega) rfl,rfl⟩
     rw[a,zy,I,zN rfl]
     rfl
    ·have C:(((wo (q.take n) k).map qq).length+1)*17<=140737488355328:=by
      have:=Y6 (q.take n) k
      rw[zX] at this
      rw[zb];omega
     have E:∀M,(s++M)[id]? =some (.row 143 2 ((wo (q.take n) k).map qq) st):=λM=>zf R
     simp only[go_sem,t4,g,E,C]
     refine⟨q.length - (n+1),by omega,n+1,fin,(b.app (zp rfl (zF rfl))).set P rfl,Jf (h0:=h) (zf c) (E _),.inr ⟨id,st+1,P,rfl,?_⟩,t0,t2,t3,o,t10,l,qc (by omega) rfl,rfl⟩
     rw[a,zy]
     exact zq (E _)
   ·have z:(y.kind==(k:Int))=false:=by simpa using z
    rw[z] at a
    simp only[Bool.false_eq_true,if_false] at a
    simp only[go_sem,g]
    exact⟨q.length - (n+1),by omega,n+1,fin,b.app (zF rfl),zf c,by rw[a];exact A.app _,t0,t2,t3,o,t10,l,qc (by omega) rfl,rfl⟩
  ·have D:=xc F
   have N:n=q.length:=by omega
   subst N
   rw[zY] at A
   have v:=Y6 q k
   simp only[go_sem,t3]
   refine zi (k0a _ (T 4) (wo q k) A.rows (by omega)) ?_
   rintro _ X ⟨rfl,V⟩
   rw[V]
   have t:=jya (λj=>if j<k then yY q j else 0) u (yY q k)
   have H:(λj:Nat=>if j=k then yY q k else if j<k then yY q j else 0)=λj:Nat=>if j<k+1 then yY q j else 0:=by
    funext j
    by_cases Q:j=k
    ·subst Q;rw[if_pos rfl,if_pos (by omega)]
    ·rw[if_neg Q]
     by_cases s:j<k
     ·rw[if_pos s,if_pos (by omega)]
     ·rw[if_neg s,if_neg (by omega)]
   rw[H] at t
   rw[show jy (qg (wo q k))=yY q k from rfl]
   simp only[go_sem,t2,t3,o,c,t,J,u,Nat.mul_one,Nat.zero_add,Int.toNat_natCast,zg]
   exact⟨7 - (k+1),by omega,k+1,by omega,b.set (zo _) rfl,zq c,t0,qc (by omega) rfl,rfl⟩
 ·have D:¬ (k:Int)<7:=of_decide_eq_false e
  have G:k=7:=by omega
  subst G
  have c:h'[h.length]? =some (.box 42 (wC λj=>yY q j)):=c
  simp only[go_sem,t2,c,WD,jza]
  rw[qX c]
  obtain⟨L,U,hN⟩:=b
  refine⟨.ag (wC λj=>yY q j),by simp only[go_sem,t2,c,WD],.inr ⟨h,L,U,rfl,rfl,.refl,rfl,rfl⟩⟩
def Z8(n:Int):Int:=min (max n 0) 604800
theorem jAa(n:Int):xv Tryz.prog 135 [i64 n] (i64 (Z8 n)):=λh=>by
 refine zl Tryz.f135 [.tmp 2] 6 rfl rfl rfl rfl rfl rfl (by decide) (⟨_,_,⟨rfl,rfl⟩,.refl⟩) λB=>?_
 simp only[go_sem]
 refine zk ?_<;>(simp only[go_sem,Z8,ZV,ZW]<;>try rfl)
def Ye(n d:Int):Int:=(XB n d).1
theorem XMa(n d:Int):xv Tryz.prog 136 [i64 n,i64 d] (i64 (Ye n d)):=λh=>by
 refine zl Tryz.f136 [.tmp 4] 14 rfl rfl rfl rfl rfl rfl (by decide) (⟨_,_,⟨rfl,rfl⟩,.refl⟩) λB=>?_
 simp only[go_sem]
 refine zi (c70 n d _) ?_
 rintro _ a ⟨rfl,rfl⟩
 simp only[go_sem,Kc]
 refine zk ?_<;>(simp only[go_sem,Ye]<;>try rfl)
def J0(r k:Int):Int:=wr (r*wr (k+1))
def yS(s:Setup)(r k:Int):Int:=if k>3 then wr (J0 r (k - 3)+wr (2*s.diff)) else J0 r k
theorem vaa(h:List Ob)(s:Setup)(a:SA)(k:SIn h s a)(r n:Int)(c:n<=3):
  ACalls Tryz.prog 137 [jm s a,i64 r,i64 n] h λb h'=>b=i64 (J0 r n)/\h'=h:=by
 have q:decide (n>3)=false:=by rw[decide_eq_false_iff_not];omega
 refine zl Tryz.f137 [.tmp 6] 22 rfl rfl rfl rfl rfl rfl (by decide) (⟨_,_,⟨rfl,rfl⟩,.refl⟩) λB=>?_
 simp only[go_sem,k.ones,q]
 refine zk ?_<;>(simp only[go_sem,J0]<;>try rfl)
theorem KJa(h:List Ob)(s:Setup)(a:SA)(k:SIn h s a)(r n:Int)(e:n<=6):
  ACalls Tryz.prog 137 [jm s a,i64 r,i64 n] h λc h'=>c=i64 (yS s r n)/\h'=h:=by
 by_cases b:n>3
 ·have q:decide (n>3)=true:=decide_eq_true b
  have w:IntKind.wrap .i64 (n - 3)=n - 3:=qb (n:=n - 3) (by unfold Fit;omega)
  refine zl Tryz.f137 [.tmp 6] 22 rfl rfl rfl rfl rfl rfl (by decide) (⟨_,_,⟨rfl,rfl⟩,.refl⟩) λB=>?_
  simp only[go_sem,k.ones,q]
  refine zV rfl [] 0 [(1,0,[]),(2,0,[]),(3,0,[]),(5,0,[]),(0,0,[]),(6,0,[]),(7,0,[]),(4,0,[6]),(8,0,[]),(9,0,[])] rfl (by decide) (by decide) ?_
  simp only[go_sem,k.ones,w]
  refine zi (vaa _ s a (k.app _) r (n - 3) (by omega)) ?_
  rintro _ d ⟨rfl,rfl⟩
  simp only[go_sem,k.ones,w]
  refine zk ?_<;>(simp only[go_sem,yS,b]<;>try rfl)
 ·refine(vaa h s a k r n (by omega)).mono ?_
  rintro c h' ⟨rfl,rfl⟩
  exact⟨by unfold yS;rw[if_neg b],rfl⟩
def upI(n d:Int):Int × Int:=if d<=0 then(0,20) else if(xL n d).2>0 then(wr ((xL n d).1+1),0) else((xL n d).1,0)
theorem cUp(n d:Int):xv Tryz.prog 139 [i64 n,i64 d] (Kc (upI n d)):=λh=>by
 refine zl Tryz.f139 [.tmp 4,.tmp 5] 21 rfl rfl rfl rfl rfl rfl (by decide) (⟨_,_,⟨rfl,rfl⟩,.refl⟩) λB=>?_
 simp only[go_sem]
 refine ways (λe=>?_) (λe=>?_)
 ·have a:d<=0:=of_decide_eq_true e
  simp only[go_sem]
  refine zk ?_<;>(simp only[go_sem,upI,a,Kc]<;>try rfl)
 ·have a:¬ d<=0:=of_decide_eq_false e
  simp only[go_sem]
  refine zi (c97 n d (by omega) _) ?_
  rintro _ f ⟨rfl,rfl⟩
  simp only[go_sem,Kc]
  refine ways (λc=>?_) (λc=>?_)
  ·have b:(xL n d).2>0:=of_decide_eq_true c
   simp only[go_sem]
   refine zk ?_<;>(simp only[go_sem,upI,a,b,Kc]<;>try rfl)
  ·have b:¬ (xL n d).2>0:=of_decide_eq_false c
   simp only[go_sem]
   refine zk ?_<;>(simp only[go_sem,upI,a,b,Kc]<;>try rfl)
def J1:Int->List Int->Int × Int
 | a,[]=>(a,0)
 | a,x::r=>if(decide (x>0)==decide (wr (a+x)>a)) || x==0 then J1 (wr (a+x)) r else(0,10)
theorem Yva(h:List Ob)(x:AV)(l:List Int)(n:SlOf h x 1 (l.map qI))(t:l.length<1048576):
  ACalls Tryz.prog 138 [x] h λr h'=>r=Kc (J1 0 l)/\h'=h:=by
 refine zl Tryz.f138 [.tmp 2,.tmp 3] 30 rfl rfl rfl rfl rfl rfl (by decide) (⟨_,_,⟨rfl,rfl⟩,.refl⟩) λB=>?_
 simp only[go_sem]
 refine VR (by decide) ?_
 simp only[go_sem,n.rows,zb]
 refine zO (by decide) (λm T h'=>∃(i:Nat) (k:Int),i<=l.length/\h'=h/\J1 0 l=J1 k (l.drop i)/\T 4=i64 k/\T 8=x/\T 9=i64 l.length/\T 10=i64 i/\m=l.length - i) l.length
  ⟨0,0,by omega,rfl,rfl,by(simp only[go_sem]<;>rfl),by simp only[go_sem],by(simp only[go_sem]<;>rfl),by(simp only[go_sem]<;>rfl),rfl⟩ ?_
 rintro m T h' ⟨i,k,hi,rfl,a,t4,t8,t9,t10,rfl⟩
 simp only[go_sem,t9,t10]
 refine ways (λe=>?_) (λe=>?_)
 ·have d:=dlt e
  have c:=XK d
  have o:=n.at (i:=i) (by rw[zb];exact d)
  have g:=n.rows
  have j:(i:Int)<l.length:=by omega
  rw[qp d,J1] at a
  obtain⟨z,s⟩:∃z,z=l[i]:=⟨_,rfl⟩
  rw[<-s] at c a
  simp only[go_sem,t4,t8,t10,o,g,c,j,zb,Int.toNat_natCast,zg]
  obtain⟨b,f⟩:∃b:Bool,b=(decide (z>0)==decide (wr (k+z)>k)):=⟨_,rfl⟩
  rw[<-f] at a
  rw[show(decide (z>0)==decide (IntKind.i64.wrap (k+z)>k))=b from f.symm]
  cases b
  ·cases h0:z==0
   ·rw[h0] at a
    simp only[Bool.or_self,Bool.false_eq_true,if_false] at a
    simp only[go_sem,h0,qE, <-f]
    refine zk ?_<;>(simp only[go_sem,a,Kc]<;>try rfl)
   ·rw[h0] at a
    simp only[Bool.or_true,if_true] at a
    simp only[go_sem,h0,qE, <-f,t10]
    exact⟨l.length - (i+1),by omega,i+1,_,by omega,a,rfl,t8,t9,qc (by omega) rfl,rfl⟩
  ·simp only[Bool.true_or,if_true] at a
   simp only[go_sem,qE, <-f,t10]
   exact⟨l.length - (i+1),by omega,i+1,_,by omega,a,rfl,t8,t9,qc (by omega) rfl,rfl⟩
 ·have q:=xc e
  have p:i=l.length:=by omega
  subst p
  rw[List.drop_length,J1] at a
  simp only[go_sem,t4]
  refine zk ?_<;>(simp only[go_sem,a,Kc]<;>try rfl)
