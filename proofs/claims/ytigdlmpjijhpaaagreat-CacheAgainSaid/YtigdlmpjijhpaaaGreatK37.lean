import Derived.Test.YtigdlmpjijhpaaaGreatKA
import Derived.Test.YtigdlmpjijhpaaaGreatK35
import Derived.Test.YtigdlmpjijhpaaaGreatK23
import Derived.Test.YtigdlmpjijhpaaaGreatK34
import Derived.Test.YtigdlmpjijhpaaaGreatK22
import Derived.Test.YtigdlmpjijhpaaaGreatK36
set_option linter.all false
namespace Go.Proofs.YtigdlmpjijhpaaaGreat.Ax
open Go Go.Proofs
set_option maxRecDepth 100000
theorem zva(h:List Ob)(id:Nat)(x y:AV)(a b:List Spn)(hi:h[id]? =some (.row 55 1 [[x],[y]] 0))(e:SlOf h x 2 (a.map qJ))(f:SlOf h y 2 (b.map qJ))(i:a.length<268435456)(g:b.length<268435456):
  ACalls Tryz.prog 188 [.tl id 0] h λr h'=>r=spv (a++b)/\h'=h:=by
 have d:Zs [(x,a),(y,b)]=a++b:=by simp[Zs]
 have q:=jX (by decide) (Jh _) (XKa h (.tl id 0) [(x,a),(y,b)] ⟨by rw[qZ,hi];rfl,λ_=>by rw[jP,hi];rfl⟩
  (λq c=>by rcases zx.1 c with rfl|c;exact e;rw[zW] at c;subst c;exact f) (by show 2<1048576;decide) (by rw[d,zf];omega))
 rw[d] at q
 exact q
theorem XXa(h:List Ob)(x:AV)(l:List Seg)(a:SlOf h x 5 (l.map xT))(b:l.length<1048576):
  ACalls Tryz.prog 23 [x] h λr h'=>r=spv (qV l)/\h'=h:=jX (by decide) (Jh _) (c31 h x l a b)
theorem jEb(h:List Ob)(x:AV)(l:List Seg)(k:Int)(a:SlOf h x 5 (l.map xT))(b:l.length<1048576):
  ACalls Tryz.prog 243 [x,i64 k] h λr h'=>r=spv (vj l k)/\h'=h:=jX (by decide) (Jh _) (c32 h x l k a b)
theorem zwa(l:List Spn)(n:Int):(J7 l n).length<=2*l.length+1:=by
 unfold J7
 split
 ·simp
 ·have a:=xz l (qP l (jR (qz l) - min n 32054400))
  have b:=qj l
  have d:=qj (qP l (jR (qz l) - min n 32054400))
  have c:(qP l (jR (qz l) - min n 32054400)).length<=(qz l).length:=xR _ _
  omega
def ZP(s:Setup)(c b:List Spn):List Spn:=if s.autoAfter<=jR (qz c)/\jR (qz b)<s.autoBreak then J7 (jD c b) (s.autoBreak - jR (qz b)) else []
def wD(s:Setup)(c b:List Spn):List Spn:=qz (jD b (qP b s.paidBreak)++ZP s c b)
theorem Ks(s:Setup)(c b:List Spn):(wD s c b).length<=2*c.length+4*b.length+4:=by
 have j:=xz b (qP b s.paidBreak)
 have e:=qj (qP b s.paidBreak)
 have g:=qj b
 have f:(qP b s.paidBreak).length<=(qz b).length:=xR _ _
 have i:(ZP s c b).length<=2*(jD c b).length+1:=by
  unfold ZP
  split
  ·exact zwa _ _
  ·simp
 have a:=xz c b
 have h:=qj c
 have d:=qj (jD b (qP b s.paidBreak)++ZP s c b)
 rw[zf] at d
 unfold wD
 omega
theorem Wda(h:List Ob)(s:Setup)(a:SA)(k:SIn h s a)(t:Times s)(x y:AV)(c b:List Spn)(u:SlOf h x 2 (c.map qJ))(j:SlOf h y 2 (b.map qJ))(L:c.length<65536)(J:b.length<65536):
  ACalls Tryz.prog 242 [je s a,x,y] h λr h'=>r=spv (wD s c b)/\h'=h:=by
 refine zi Tryz.f242 [.tmp 6] 41 rfl rfl rfl rfl rfl rfl (by decide) (⟨_,_,⟨rfl,rfl⟩,.refl⟩) λB=>?_
 simp only[go_sem,k.ones]
 have A:∀M,(h++[Ob.box 30 (qg s a)]++M)[h.length]? =some (.box 30 (qg s a)):=λM=>by rw[zt,zM rfl];rfl
 refine zg (jZa _ y b _ (j.app _) (by omega) (by have:=t.paidBreak;unfold Fit;omega)) ?_
 rintro _ e ⟨rfl,rfl⟩
 simp only[go_sem]
 refine zg (Kq _ y _ b _ (j.app _) (xb _) (by omega) (by have:=xR (qz b) s.paidBreak;have:=qj b;unfold qP;omega)) ?_
 rintro _ e ⟨rfl,rfl⟩
 simp only[go_sem]
 refine zg (yEa _ y b (j.app _) (by omega)) ?_
 rintro _ e ⟨rfl,rfl⟩
 simp only[go_sem]
 refine zL rfl [] 0 [(0,0,[]),(2,0,[]),(3,0,[]),(1,0,[3]),(4,0,[]),(5,0,[]),(6,0,[]),(7,0,[]),(8,0,[]),(9,0,[]),(10,0,[])] rfl (by decide) (by decide) ?_
 simp only[go_sem]
 refine zg (yEa _ x c (u.app _) (by omega)) ?_
 rintro _ e ⟨rfl,rfl⟩
 have K:=xz b (qP b s.paidBreak)
 have m:=xR (qz b) s.paidBreak
 have F:=qj (qP b s.paidBreak)
 have I:=qj b
 have H:(qP b s.paidBreak).length<=(qz b).length:=m
 cases g:decide (jR (qz c)≥s.autoAfter)
 ·have d:ZP s c b=[]:=by unfold ZP;rw[if_neg];exact λq=>(of_decide_eq_false g) q.1
  have f:wD s c b=qz (jD b (qP b s.paidBreak)):=by unfold wD;rw[d,zH]
  simp only[go_sem,g,qt]
  refine zg (J9 _ _ (jD b (qP b s.paidBreak)) (xb _) (by omega)) ?_
  rintro _ e ⟨rfl,rfl⟩
  rw[<-f]
  simp only[go_sem]
  exact⟨_,by simp only[go_sem],.inr ⟨h,_,rfl,rfl,J8 _,.refl,rfl,rfl⟩⟩
 ·have p:s.autoAfter<=jR (qz c):=of_decide_eq_true g
  cases i:decide (jR (qz b)<s.autoBreak)
  ·have d:ZP s c b=[]:=by unfold ZP;rw[if_neg];exact λq=>(of_decide_eq_false i) q.2
   have f:wD s c b=qz (jD b (qP b s.paidBreak)):=by unfold wD;rw[d,zH]
   simp only[go_sem,g,i,qt]
   refine zg (J9 _ _ (jD b (qP b s.paidBreak)) (xb _) (by omega)) ?_
   rintro _ e ⟨rfl,rfl⟩
   rw[<-f]
   simp only[go_sem]
   exact⟨_,by simp only[go_sem],.inr ⟨h,_,rfl,rfl,J8 _,.refl,rfl,rfl⟩⟩
  ·have o:jR (qz b)<s.autoBreak:=of_decide_eq_true i
   have d:ZP s c b=J7 (jD c b) (s.autoBreak - jR (qz b)):=by unfold ZP;rw[if_pos ⟨p,o⟩]
   simp only[go_sem,g,i,qt]
   refine zL rfl [.res] 1 [(0,0,[]),(1,0,[]),(2,0,[]),(4,0,[]),(6,0,[]),(5,0,[]),(7,0,[]),(3,0,[5]),(8,0,[]),(9,0,[]),(10,0,[]),(11,0,[])] rfl (by decide) (by decide) ?_
   simp only[go_sem]
   refine zg (Kq _ x y c b (u.app _) (j.app _) (by omega) (by omega)) ?_
   rintro _ e ⟨rfl,rfl⟩
   have w:=xz c b
   have C:=qj c
   have G:=zda (l:=qz b) (λs v=>va s v)
   have z:=t.autoBreak
   have E:IntKind.wrap .i64 (s.autoBreak - jR (qz b))=s.autoBreak - jR (qz b):=qp (n:=s.autoBreak - jR (qz b)) (by unfold Fit;omega)
   simp only[go_sem,E]
   refine zg (jAb _ _ (jD c b) (s.autoBreak - jR (qz b)) (xb _) (by omega) (by unfold Fit;omega)) ?_
   rintro _ e ⟨rfl,rfl⟩
   rw[<-d]
   have D:(ZP s c b).length<1048576:=by
    have:=zwa (jD c b) (s.autoBreak - jR (qz b))
    rw[d];omega
   simp only[go_sem]
   refine zg (zva _ (h.length+1) _ _ (jD b (qP b s.paidBreak)) (ZP s c b) (by rw[zG (k:=1) rfl];rfl) (xb _) (xb _) (by omega) (by omega)) ?_
   rintro _ e ⟨rfl,rfl⟩
   simp only[go_sem]
   refine zg (J9 _ _ (jD b (qP b s.paidBreak)++ZP s c b) (xb _) (by rw[zf];omega)) ?_
   rintro _ e ⟨rfl,rfl⟩
   rw[show qz (jD b (qP b s.paidBreak)++ZP s c b)=wD s c b from rfl]
   simp only[go_sem]
   exact⟨_,by simp only[go_sem],.inr ⟨h,_,rfl,rfl,J8 _,.refl,rfl,rfl⟩⟩
theorem yOa{n:Nat}(a b:List Spn):(AV.tup [spv a,spv b]).lt n=true:=by
 simp only[AV.lt,qy,J8,Bool.and_self]
theorem Wea{n:Nat}(a b c:List Spn):(AV.tup [spv a,spv b,spv c]).lt n=true:=by
 simp only[AV.lt,qy,J8,Bool.and_self]
def xX(s:Setup)(l:List Seg)(d:Int):List Spn:=wD s (xm (qV l) d) (xm (vj l 3) d)
def jZ(s:Setup)(l:List Seg)(d:Int):List Spn:=jD (xm (qV l) d) (xX s l d)
theorem Zw(l:List Seg):(qV l).length<=l.length:=by
 have:=qj (l.map spS)
 rw[zb] at this
 exact this
theorem Vj(l:List Seg)(k:Int):(vj l k).length<=l.length:=by
 have a:=qj ((l.filter λg=>g.kind==k).map spS)
 have b:=qw (λg:Seg=>g.kind==k) l
 rw[zb] at a
 unfold vj;omega
theorem QJ(l:List Spn)(d:Int):(xm l d).length<=l.length+1:=by
 have a:=QG l d 86400
 have b:=qj l
 unfold xm;omega
theorem XI(s:Setup)(l:List Seg)(d:Int):(xX s l d).length<=6*l.length+10:=by
 have f:=Ks s (xm (qV l) d) (xm (vj l 3) d)
 have e:=QJ (qV l) d
 have c:=QJ (vj l 3) d
 have a:=Zw l
 have b:=Vj l 3
 unfold xX;omega
theorem WG(s:Setup)(l:List Seg)(d:Int):(jZ s l d).length<=7*l.length+12:=by
 have f:=xz (xm (qV l) d) (xX s l d)
 have e:=QJ (qV l) d
 have c:=XI s l d
 have a:=Zw l
 have b:=qj (xm (qV l) d)
 have g:=qj (xX s l d)
 unfold jZ;omega
theorem Qwa(h:List Ob)(s:Setup)(a:SA)(k:SIn h s a)(f:SFit s)(c:z6 s=true)(x:AV)(l:List Seg)(d:Int)(e:SlOf h x 5 (l.map xT))(j:l.length<32768):
  ACalls Tryz.prog 184 [je s a,x,i64 d] h λr h'=>r= .tup [spv (jZ s l d),spv (xX s l d)]/\h'=h:=by
 have b:=Zw l
 have n:=Vj l 3
 have m:=QJ (qV l) d
 have g:=QJ (vj l 3) d
 have i:=XI s l d
 refine zi Tryz.f184 [.tmp 6,.tmp 7] 28 rfl rfl rfl rfl rfl rfl (by decide) (⟨_,_,⟨rfl,rfl⟩,.refl⟩) λB=>?_
 simp only[go_sem,k.ones]
 refine zg (c16 _ s a (k.app _) f) ?_
 rintro _ b ⟨rfl,rfl⟩
 simp only[go_sem,c,qt,Bool.not_true]
 refine zg (XXa _ x l (e.app _) (by omega)) ?_
 rintro _ b ⟨rfl,rfl⟩
 simp only[go_sem]
 refine zg (wqa _ _ (qV l) d (xb _) (by omega)) ?_
 rintro _ b ⟨rfl,rfl⟩
 simp only[go_sem]
 refine zL rfl [] 0 [(1,0,[]),(2,0,[]),(4,0,[]),(0,0,[]),(3,0,[0]),(5,0,[0]),(6,0,[]),(7,0,[])] rfl (by decide) (by decide) ?_
 simp only[go_sem,k.ones]
 refine zg (jEb _ x l 3 (e.app _) (by omega)) ?_
 rintro _ b ⟨rfl,rfl⟩
 simp only[go_sem]
 refine zg (wqa _ _ (vj l 3) d (xb _) (by omega)) ?_
 rintro _ b ⟨rfl,rfl⟩
 simp only[go_sem]
 refine zg (Wda _ s a (k.app _) (VZ c) _ _ (xm (qV l) d) (xm (vj l 3) d) (xb _) (xb _) (by omega) (by omega)) ?_
 rintro _ b ⟨rfl,rfl⟩
 rw[show wD s (xm (qV l) d) (xm (vj l 3) d)=xX s l d from rfl]
 simp only[go_sem]
 refine zg (Kq _ _ _ (xm (qV l) d) (xX s l d) (xb _) (xb _) (by omega) (by omega)) ?_
 rintro _ b ⟨rfl,rfl⟩
 rw[show jD (xm (qV l) d) (xX s l d)=jZ s l d from rfl]
 simp only[go_sem]
 exact⟨_,by simp only[go_sem],.inr ⟨h,_,rfl,rfl,yOa _ _,.refl,rfl,rfl⟩⟩
structure L2 (F:List (Nat × Ob)) (h0 h:List Ob) (i j bty ty e:Nat) (r1 r2:List (List AV)):Prop where
 pre:Pre h0 h
 li:h0.length<=i
 lj:h0.length<=j
 ne:i≠j
 kept:∀z∈F,z.1≠i/\z.1≠j/\(∃t cs,z.2= .box t cs)/\h[z.1]? =some z.2
 at_:∃x y,h[i]? =some (.box bty [x])/\h[j]? =some (.box bty [y])/\OwnS h0 h ty e x r1/\OwnS h0 h ty e y r2/\∀a s b t,x= .tl a s->y= .tl b t->a≠b
def BoxK(i j:Nat)(h m:List Ob):Prop:=∀(z:Nat) (t:TypeId) (cs:List AV),z≠i->z≠j->h[z]? =some (.box t cs)->m[z]? =some (.box t cs)
theorem BoxK.app{i j:Nat}{h M:List Ob}:BoxK i j h (h++M):=λz t cs _ _ q=>ze q
theorem BoxK.trans{i j:Nat}{a b c:List Ob}(h:BoxK i j a b)(k:BoxK i j b c):BoxK i j a c:=λz t cs hi d q=>k z t cs hi d (h z t cs hi d q)
theorem BoxK.setR{i j id:Nat}{a:List Ob}{o:Ob}{ty e:Nat}{rows:List (List AV)}{st:Nat}(hi:a[id]? =some (.row ty e rows st)):BoxK i j a (a.set id o):=λz t cs _ _ q=>by
 have:id≠z:=λe=>by rw[e,q] at hi;cases hi
 rw[zc this];exact q
theorem OwnS.setB{h0 h:List Ob}{ty e:Nat}{x:AV}{rows:List (List AV)}(k:OwnS h0 h ty e x rows){i:Nat}{o:Ob}{t:TypeId}{cs:List AV}(hi:h[i]? =some (.box t cs)):OwnS h0 (h.set i o) ty e x rows:=by
 rcases k with⟨rfl,b⟩|⟨id,st,c,rfl,a⟩
 ·exact .inl ⟨rfl,b⟩
 ·refine .inr ⟨id,st,c,rfl,?_⟩
  have:i≠id:=λe=>by rw[e,a] at hi;cases hi
  rw[zc this];exact a
theorem L2.fin{F:List (Nat × Ob)}{h0 h m:List Ob}{i j bty ty e:Nat}{B G d f:List (List AV)}(k:L2 F h0 h i j bty ty e B G)(C:Pre h0 m)(u:BoxK i j h m){x' y':AV}(hi:∃x,m[i]? =some (.box bty [x]))(w:∃x,m[j]? =some (.box bty [x]))
  (D:OwnS h0 m ty e x' d) (A:OwnS h0 m ty e y' f) (l:∀a s b t,x'= .tl a s->y'= .tl b t->a≠b):L2 F h0 ((m.set i (.box bty [x'])).set j (.box bty [y'])) i j bty ty e d f:=by
 obtain⟨x,g⟩:=hi
 obtain⟨y,E⟩:=w
 have p:(m.set i (.box bty [x']))[i]? =some (.box bty [x']):=zp (zd.1 g).1
 have c:(m.set i (.box bty [x']))[j]? =some (.box bty [y]):=by rw[zc k.ne];exact E
 refine⟨(C.set k.li rfl).set k.lj rfl,k.li,k.lj,k.ne,λz v=>?_,x',y',?_,zp (zd.1 c).1,(D.setB g).setB c,(A.setB g).setB c,l⟩
 ·obtain⟨n,o,⟨t,cs,q⟩,r⟩:=k.kept z v
  refine⟨n,o,⟨t,cs,q⟩,?_⟩
  rw[q] at r⊢
  rw[zc (Ne.symm o),zc (Ne.symm n)]
  exact u _ _ _ n o r
 ·rw[zc k.ne.symm];exact p
theorem L2.any{F:List (Nat × Ob)}{h0 h:List Ob}{i j bty ty e:Nat}{p r:List (List AV)}(k:L2 F h0 h i j bty ty e p r)(d c:List (List AV)):∃h',L2 F h0 h' i j bty ty e d c/\ResK h h':=by
 obtain⟨x,y,l,o,_⟩:=k.at_
 have n:=k.pre.len
 have q:=k.fin (m:=h++[.row ty e d 0,.row ty e c 0]) (k.pre.app (zl rfl (zD rfl))) .app (x':= .tl h.length 0) (y':= .tl (h.length+1) 0) ⟨x,ze l⟩ ⟨y,ze o⟩
  (.inr ⟨_,_,n,rfl,by rw[zM rfl];rfl⟩) (.inr ⟨_,_,by omega,rfl,by rw[zG (k:=1) rfl];rfl⟩) (λa s b t g f=>by injection g with g;injection f with f;omega)
 exact⟨_,q,k.pre.resK q.pre⟩
theorem zyb(F:List (Nat × Ob))(h0 h:List Ob)(i j u v:Nat)(s:Setup)(a:SA)(x:AV)(l:List Seg)(p q:List Spn)(d:Int)(k:L2 F h0 h i j 55 143 2 (p.map qJ) (q.map qJ))(ks:SIn h s a)(f:SFit s)(β:z6 s=true)
  (hu:(u,Ob.box 30 (qg s a))∈F) (hv:(v,Ob.box 51 [x])∈F) (hx:SlOf h x 5 (l.map xT)) (P:l.length<32768) (hp:p.length<4294967296) (hq:q.length<4294967296):
  ACalls Tryz.prog 183 [i64 d,.ptr u 0,.ptr v 0,.ptr i 0,.ptr j 0] h λr h'=>r= .tup []/\L2 F h0 h' i j 55 143 2 ((p++jZ s l d).map qJ) ((q++xX s l d).map qJ):=by
 have hex:∃r h',(r=AV.tup []/\L2 F h0 h' i j 55 143 2 ((p++jZ s l d).map qJ) ((q++xX s l d).map qJ))/\ResK h h':=by
  obtain⟨h',q1,q2⟩:=k.any ((p++jZ s l d).map qJ) ((q++xX s l d).map qJ)
  exact⟨_,h',⟨rfl,q1⟩,q2⟩
 have Y:=(k.kept _ hu).2.2.2
 have W:=(k.kept _ hv).2.2.2
 obtain⟨y,z,w,g,oy,X,Z⟩:=k.at_
 have S:=hx.cells
 have μ:=WG s l d
 have ρ:=XI s l d
 have D:=j1a (jZ s l d)
 have G:=j1a (xX s l d)
 have c1:(p.length+(jZ s l d).length)*17<=140737488355328:=by omega
 have c2:(q.length+(xX s l d).length)*17<=140737488355328:=by omega
 have c3:(jZ s l d).length*17<=140737488355328:=by omega
 have c4:(xX s l d).length*17<=140737488355328:=by omega
 refine zi Tryz.f183 [] 21 rfl rfl rfl rfl rfl rfl (by decide) (hex) λB=>?_
 simp only[go_sem,Y,W,ks.ones,S]
 refine zg (Qwa h s a ks f β x l d hx P) ?_
 rintro _ E ⟨rfl,rfl⟩
 simp only[go_sem]
 refine zL rfl [] 0 [(1,0,[]),(4,0,[]),(0,0,[]),(3,0,[]),(2,0,[3]),(5,0,[]),(6,0,[]),(7,0,[])] rfl (by decide) (by decide) ?_
 have c:∀M,(E++M)[i]? =some (.box 55 [y]):=λM=>ze w
 have e:∀M,(E++M)[j]? =some (.box 55 [z]):=λM=>ze g
 have ξ:=oy.rows.cells
 have τ:=X.rows.cells
 have Q:i≠j:=k.ne
 have H:j≠i:=k.ne.symm
 have P:=k.pre.len
 have hi:i<E.length:=(zd.1 w).1
 have hj:j<E.length:=(zd.1 g).1
 rcases oy with⟨rfl,T⟩|⟨ia,sa,R,rfl,A⟩
 ·have α:p=[]:=by simpa using T
  subst α
  rcases X with⟨rfl,I⟩|⟨ib,V,v1,rfl,v3⟩
  ·have J:q=[]:=by simpa using I
   subst J
   simp only[go_sem,w,g,c,e,D,G,c3,c4,zb,zc,Q,H,ne_eq,not_false_eq_true]
   exact⟨_,rfl,.inl ⟨rfl,k.fin (k.pre.app (zl rfl (zD rfl))) .app ⟨_,c _⟩ ⟨_,e _⟩ (.inr ⟨_,_,P,rfl,by rw[zM rfl];rfl⟩) (.inr ⟨_,_,by omega,rfl,by rw[zG (k:=1) rfl];rfl⟩) (λa s b t m n=>by injection m with m;injection n with n;omega)⟩⟩
  ·have C:∀M,(E++M)[ib]? =some (.row 143 2 (q.map qJ) V):=λM=>ze v3
   have n1:ib≠i:=λq=>by rw[q,w] at v3;cases v3
   have n2:ib≠j:=λq=>by rw[q,g] at v3;cases v3
   have U:=(zd.1 v3).1
   simp only[go_sem,w,g,c,e,D,G,c2,c3,C,v3,zb,zc,Q,H,n1,n2,ne_eq,not_false_eq_true]
   refine⟨_,rfl,.inl ⟨rfl,k.fin ((k.pre.app (zD rfl)).set v1 rfl) (BoxK.app.trans (.setR (C _))) ⟨_,(zc n1).trans (c _)⟩ ⟨_,(zc n2).trans (e _)⟩ (.inr ⟨_,_,P,rfl,?_⟩) (.inr ⟨_,_,v1,rfl,?_⟩) (λa s b t m n=>by injection m with m;injection n with n;omega)⟩⟩
   ·rw[zc (by omega),zM rfl];rfl
   ·rw[zp (by rw[zf];omega), <-zw]
 ·have K:∀M,(E++M)[ia]? =some (.row 143 2 (p.map qJ) sa):=λM=>ze A
  have n3:ia≠i:=λq=>by rw[q,w] at A;cases A
  have n4:ia≠j:=λq=>by rw[q,g] at A;cases A
  have L:=(zd.1 A).1
  rcases X with⟨rfl,I⟩|⟨ib,V,v1,rfl,v3⟩
  ·have J:q=[]:=by simpa using I
   subst J
   have O:∀o M,(E.set ia o++M)[i]? =some (.box 55 [.tl ia sa]):=λo M=>ze ((zc n3).trans w)
   have N:∀o M,(E.set ia o++M)[j]? =some (.box 55 [.v (.slice none 0 0)]):=λo M=>ze ((zc n4).trans g)
   simp only[go_sem,w,g,c,e,O,N,D,G,c1,c4,K,A,zb,zc,Q,H,n3,n4,ne_eq,not_false_eq_true]
   refine⟨_,rfl,.inl ⟨rfl,k.fin ((k.pre.set R rfl).app (zD rfl)) (BoxK.trans (.setR A) .app) ⟨_,O _ _⟩ ⟨_,N _ _⟩ (.inr ⟨_,_,R,rfl,?_⟩) (.inr ⟨_,_,P,rfl,?_⟩) (λa s b t m n=>by injection m with m;injection n with n;omega)⟩⟩
   ·refine ze ?_
    rw[zp L, <-zw]
   ·rw[zM (by rw[zN])];rfl
  ·have C:∀M,(E++M)[ib]? =some (.row 143 2 (q.map qJ) V):=λM=>ze v3
   have n1:ib≠i:=λq=>by rw[q,w] at v3;cases v3
   have n2:ib≠j:=λq=>by rw[q,g] at v3;cases v3
   have n5:ia≠ib:=Z _ _ _ _ rfl rfl
   have U:=(zd.1 v3).1
   simp only[go_sem,w,g,c,e,D,G,c1,c2,K,C,A,v3,zb,zc,Q,H,n1,n2,n3,n4,n5,ne_eq,not_false_eq_true]
   refine⟨_,rfl,.inl ⟨rfl,k.fin ((k.pre.set R rfl).set v1 rfl) (BoxK.trans (.setR A) (.setR ((zc n5).trans v3))) ⟨_,(zc n1).trans ((zc n3).trans w)⟩ ⟨_,(zc n2).trans ((zc n4).trans g)⟩ (.inr ⟨_,_,R,rfl,?_⟩) (.inr ⟨_,_,v1,rfl,?_⟩) (λa s b t m n=>by injection m with m;injection n with n;omega)⟩⟩
   ·rw[zc n5.symm,zp L, <-zw]
   ·rw[zp (by rw[zN];omega), <-zw]
def yh(s:Setup)(l:List Seg):List Spn:=qz ((qR (qV l)).flatMap (jZ s l))
def we(s:Setup)(l:List Seg):List Spn:=qz ((qR (qV l)).flatMap (xX s l))
theorem zxa{f:Int->List Spn}{m:Nat}(a:∀d,(f d).length<=m):∀l:List Int,(l.flatMap f).length<=m*l.length
 | []=>by simp
 | d::l=>by
   have b:=a d
   have c:=zxa a l
   rw[List.flatMap_cons,zf,List.length_cons,Nat.mul_succ];omega
theorem XJ{f:Int->List Spn}{l:List Int}{n:Nat}(h:n<l.length):(l.take (n+1)).flatMap f=(l.take n).flatMap f++f l[n]:=by
 rw[<-zE h,List.flatMap_append];simp
theorem jFb(h:List Ob)(s:Setup)(a:SA)(k:SIn h s a)(f:SFit s)(U:z6 s=true)(x:AV)(l:List Seg)(E:SlOf h x 5 (l.map xT))(hl:l.length<32768):
  ACalls Tryz.prog 114 [je s a,x] h λr h'=>r= .tup [spv (yh s l),spv (we s l)]/\h'=h:=by
 have N:=E.cells
 have V:=E.one
 have σ:=Zw l
 refine zi Tryz.f114 [.cell 4 55,.cell 5 55] 29 rfl rfl rfl rfl rfl rfl (by decide) (⟨_,_,⟨rfl,rfl⟩,.refl⟩) λB=>?_
 simp only[go_sem,k.ones,V,N]
 refine zg (XXa _ x l (E.app _) (by omega)) ?_
 rintro _ h1 ⟨rfl,rfl⟩
 simp only[go_sem]
 refine zg (XAa _ _ (qV l) (xb _) (by omega)) ?_
 rintro _ h1 ⟨rfl,rfl⟩
 have S:=yX (qV l)
 have d:yh s l=qz (((qR (qV l)).take (qR (qV l)).length).flatMap (jZ s l)):=by rw[zP];rfl
 have g:we s l=qz (((qR (qV l)).take (qR (qV l)).length).flatMap (xX s l)):=by rw[zP];rfl
 obtain⟨v,hv⟩:∃v,v=qR (qV l):=⟨_,rfl⟩
 rw[<-hv] at S d g⊢
 simp only[go_sem,zb]
 obtain⟨F,Q⟩:∃F,F=[(h.length,Ob.box 30 (qg s a)),(h.length+1,Ob.box 51 [x])]:=⟨_,rfl⟩
 have hu:(h.length,Ob.box 30 (qg s a))∈F:=by rw[Q];simp
 have hw:(h.length+1,Ob.box 51 [x])∈F:=by rw[Q];simp
 obtain⟨G,R⟩:∃G,G=AV.fn (.func 183) [] [.ptr h.length 0,.ptr (h.length+1) 0,.ptr (h.length+2) 0,.ptr (h.length+3) 0]:=⟨_,rfl⟩
 rw[<-R]
 refine zI (by decide) (λm T h'=>∃n:Nat,n<=v.length/\L2 F h h' (h.length+2) (h.length+3) 55 143 2 (((v.take n).flatMap (jZ s l)).map qJ) (((v.take n).flatMap (xX s l)).map qJ)/\T 4= .ptr (h.length+2) 0/\T 5= .ptr (h.length+3) 0/\T 6= .sl 1 (v.map qn)/\T 7=G/\T 14=i64 v.length/\T 15=i64 n/\m=v.length - n) v.length
  ⟨0,by omega,⟨⟨_,rfl,zl rfl (zl rfl (zl rfl (zD rfl)))⟩,by omega,by omega,by omega,(λz c=>by
   rw[Q] at c
   rcases zx.1 c with rfl|c
   ·exact⟨by show h.length≠h.length+2;omega,by show h.length≠h.length+3;omega,⟨_,_,rfl⟩,by rw[zM rfl];rfl⟩
   ·rw[zW] at c
    subst c
    exact⟨by show h.length+1≠h.length+2;omega,by show h.length+1≠h.length+3;omega,⟨_,_,rfl⟩,by rw[zG (k:=1) rfl];rfl⟩),
   _,_,by rw[zG (k:=2) rfl];rfl,by rw[zG (k:=3) rfl];rfl,.inl ⟨rfl,rfl⟩,.inl ⟨rfl,rfl⟩,λa s b t H=>by cases H⟩,by simp only[go_sem],by simp only[go_sem],by simp only[go_sem],by simp only[go_sem],by(simp only[go_sem]<;>rfl),by(simp only[go_sem]<;>rfl),rfl⟩ ?_
 rintro m T h' ⟨n,β,o,t4,t5,t6,X,D,j,rfl⟩
 have w:=zxa (WG s l) (v.take n)
 have q:=zxa (XI s l) (v.take n)
 rw[zJ] at w q
 have I:(7*l.length+12)*min n v.length<=(7*32768+12)*371:=Nat.mul_le_mul (by omega) (by omega)
 have A:(6*l.length+10)*min n v.length<=(6*32768+10)*371:=Nat.mul_le_mul (by omega) (by omega)
 simp only[go_sem,D,j]
 refine ways (λe=>?_) (λe=>?_)
 ·have p:=dlt e
  have i:=XH p
  have K:(n:Int)<v.length:=by omega
  have H:=XJ (f:=jZ s l) p
  have Z:=XJ (f:=xX s l) p
  obtain⟨z,c⟩:∃z,z=v[n]:=⟨_,rfl⟩
  rw[<-c] at i H Z
  simp only[go_sem,t6,X,j,i,K,R,zb,Int.toNat_natCast,zh]
  refine zg (zyb F h h' (h.length+2) (h.length+3) h.length (h.length+1) s a x l _ _ z o (o.pre.sin k) f U hu hw (o.pre.sl E) hl (by omega) (by omega)) ?_
  rintro _ h6 ⟨rfl,k6⟩
  rw[<-H, <-Z] at k6
  simp only[go_sem,j]
  exact⟨v.length - (n+1),by omega,n+1,by omega,k6,t4,t5,t6,by rw[X,R],D,qf (by omega) rfl,rfl⟩
 ·have α:=j9 e
  have O:n=v.length:=by omega
  subst O
  obtain⟨y,z,J,c,oy,oz,κ⟩:=o.at_
  have C:=o.pre
  simp only[go_sem]
  refine zL rfl [] 0 [(0,0,[]),(2,0,[]),(1,0,[2]),(3,0,[]),(4,0,[]),(5,0,[])] rfl (by decide) (by decide) ?_
  have ε:∀M,(h'++M)[h.length+2]? =some (.box 55 [y]):=λM=>ze J
  have ρ:∀M,(h'++M)[h.length+3]? =some (.box 55 [z]):=λM=>ze c
  simp only[go_sem,t4,t5,J,c]
  refine zg (J9 _ y _ oy.rows (by omega)) ?_
  rintro _ h' ⟨rfl,rfl⟩
  rw[<-d]
  simp only[go_sem,c,t5]
  refine zg (J9 _ z _ oz.rows (by omega)) ?_
  rintro _ h' ⟨rfl,rfl⟩
  rw[<-g]
  have ne:h.length+2≠h.length+3:=by omega
  have u:h.length+3≠h.length+2:=by omega
  have Y:=(zd.1 J).1
  have W:=(zd.1 c).1
  simp only[go_sem,t4,t5,J,c,zc,ne,u,ne_eq,not_false_eq_true]
  have P:Pre h ((h'.set (h.length+2) (.box 55 [spv (yh s l)])).set (h.length+3) (.box 55 [spv (we s l)])):=(C.set o.li rfl).set o.lj rfl
  obtain⟨L,hL,hN⟩:=P
  refine⟨.tup [spv (yh s l),spv (we s l)],?_,.inr ⟨h,L,hL,rfl,yOa _ _,.refl,rfl,rfl⟩⟩
  have q1:((h'.set (h.length+2) (.box 55 [spv (yh s l)])).set (h.length+3) (.box 55 [spv (we s l)]))[h.length+2]? =some (.box 55 [spv (yh s l)]):=by
   rw[zc u,zp (by omega)]
  have q2:((h'.set (h.length+2) (.box 55 [spv (yh s l)])).set (h.length+3) (.box 55 [spv (we s l)]))[h.length+3]? =some (.box 55 [spv (we s l)]):=by
   rw[zp (by rw[zN];omega)]
  simp only[go_sem,t4,t5,q1,q2]
end Go.Proofs.YtigdlmpjijhpaaaGreat.Ax
namespace Go.Proofs.YtigdlmpjijhpaaaGreat.Ax
open Go
theorem V1{C:List Spn}{n size:Int}(v:0<size){s:Spn}(d:s∈vk C n size):((∃p∈qz C,s.from_=p.from_)∨s.from_=n*size)/\n*size<=s.from_/\s.from_<(n+1)*size:=by
 unfold vk at d
 split at d
 ·cases d
 ·rename_i x
  have i:0<=n:=by omega
  have o:0<=n*size:=Int.mul_nonneg i (by omega)
  have g:=va s d
  have m:=(Vh (a:=C) (b:=[⟨n*size,(n+1)*size⟩]) (t:=s.from_)).1 ⟨s,d,by omega,g.2.1⟩
  obtain⟨_,_,y,c,h,j⟩:=m
  rw[zW] at c
  subst c
  refine⟨?_,h,j⟩
  obtain⟨y,c,e⟩:=Km d
  unfold xw at c
  obtain⟨z,f,rfl⟩:=zr.1 (zT.1 c).1
  obtain⟨p,k,f⟩:=List.mem_flatMap.1 f
  obtain⟨q,l,rfl⟩:=zr.1 f
  have A:=(va p k).1
  have w:=(va q l).1
  obtain⟨y,c,u⟩:=Km l
  unfold xw at c
  obtain⟨z,f,rfl⟩:=zr.1 (zT.1 c).1
  rw[zW] at f
  subst f
  simp only[kJ] at u
  simp only[kJ,ZK] at e
  by_cases r:p.from_<=q.from_
  ·right;omega
  ·left;exact⟨p,k,by omega⟩
theorem Qxa(C:List Spn)(size:Int)(a:0<size)(L:List Int)(f:L.Nodup):(L.flatMap λd=>vk C d size).length<=(qz C).length+L.length:=by
 have key:∀L:List Int,L.Nodup->((L.flatMap λd=>vk C d size).map (·.from_)).Nodup:=λL=>by
  induction L with
  | nil=>intro _;simp
  | cons d L n=>
    intro f
    rw[List.nodup_cons] at f
    rw[List.flatMap_cons,zw,List.nodup_append]
    refine⟨?_,n f.2,?_⟩
    ·unfold vk
     split
     ·simp
     ·exact(vi _).froms
    ·intro x g y u e
     obtain⟨s,c,rfl⟩:=zr.1 g
     obtain⟨t,k,rfl⟩:=zr.1 u
     obtain⟨l,j,k⟩:=List.mem_flatMap.1 k
     have w:=(V1 a c).2
     have z:=(V1 a k).2
     have i:d≠l:=λq=>f.1 (by rw[q];exact j)
     rw[e] at w
     rcases Int.lt_or_gt_of_ne i with r|v
     ·have:(d+1)*size<=l*size:=Int.mul_le_mul_of_nonneg_right (by omega) (by omega)
      omega
     ·have:(l+1)*size<=d*size:=Int.mul_le_mul_of_nonneg_right (by omega) (by omega)
      omega
 have h:=XF (key L f) (b:=(qz C).map (·.from_)++L.map (· *size)) λx g=>by
  obtain⟨s,c,rfl⟩:=zr.1 g
  obtain⟨d,o,c⟩:=List.mem_flatMap.1 c
  rw[zK]
  rcases (V1 a c).1 with⟨p,m,e⟩|e
  ·exact .inl (zr.2 ⟨p,m,e.symm⟩)
  ·exact .inr (zr.2 ⟨d,o,e.symm⟩)
 simpa using h
theorem Xe(C:List Spn)(L:List Int)(a:L.Nodup):(L.flatMap (xm C)).length<=(qz C).length+L.length:=Qxa C 86400 (by decide) L a
theorem yPa{f g:Int->List Spn}{a b:Nat}(h:∀d,(f d).length<=a*(g d).length+b):∀L:List Int,(L.flatMap f).length<=a*(L.flatMap g).length+b*L.length
 | []=>by simp
 | d::L=>by
   have c:=h d
   have e:=yPa h L
   rw[List.flatMap_cons,List.flatMap_cons,zf,zf,List.length_cons,Nat.mul_add,Nat.mul_succ];omega
theorem zya{f g k:Int->List Spn}{a b c:Nat}(h:∀d,(f d).length<=a*(g d).length+b*(k d).length+c):∀L:List Int,(L.flatMap f).length<=a*(L.flatMap g).length+b*(L.flatMap k).length+c*L.length
 | []=>by simp
 | d::L=>by
   have e:=h d
   have i:=zya h L
   rw[List.flatMap_cons,List.flatMap_cons,List.flatMap_cons,zf,zf,zf,List.length_cons,Nat.mul_add,Nat.mul_add,Nat.mul_succ];omega
theorem yF{L:List Int}(h:L.Pairwise (· < ·)):L.Nodup:=h.imp λ{a b} q e=>by omega
open Go.Proofs
set_option maxRecDepth 100000
theorem wxa(s:Setup)(l:List Seg)(d:Int):(jZ s l d).length<=3*(xm (qV l) d).length+4*(xm (vj l 3) d).length+5:=by
 have c:=xz (xm (qV l) d) (xX s l d)
 have e:=Ks s (xm (qV l) d) (xm (vj l 3) d)
 have b:=qj (xm (qV l) d)
 have a:=qj (xX s l d)
 unfold jZ
 unfold xX at*
 omega
theorem kDa(s:Setup)(l:List Seg):(yh s l).length<=7*l.length+4452:=by
 have h0:=qj ((qR (qV l)).flatMap (jZ s l))
 have g:=zya (wxa s l) (qR (qV l))
 have f:=Xe (qV l) _ (yF (vF (qV l)).1)
 have e:=Xe (vj l 3) _ (yF (vF (qV l)).1)
 have a:=yX (qV l)
 have b:=qj (qV l)
 have h:=qj (vj l 3)
 have c:=Zw l
 have d:=Vj l 3
 unfold yh
 omega
theorem kEa(s:Setup)(l:List Seg):(we s l).length<=6*l.length+4452:=by
 have h0:=qj ((qR (qV l)).flatMap (xX s l))
 have i:=zya (λd=>Ks s (xm (qV l) d) (xm (vj l 3) d)) (qR (qV l))
 have h:=Xe (qV l) _ (yF (vF (qV l)).1)
 have g:=Xe (vj l 3) _ (yF (vF (qV l)).1)
 have a:=yX (qV l)
 have b:=qj (qV l)
 have j:=qj (vj l 3)
 have c:=Zw l
 have f:=Vj l 3
 unfold we
 have e:(qR (qV l)).flatMap (xX s l)=(qR (qV l)).flatMap λd=>wD s (xm (qV l) d) (xm (vj l 3) d):=rfl
 rw[e] at h0⊢
 omega
def V2(v:List Spn)(d:Int):AV:=spv (xm v d)
theorem Wfa(j:Nat)(v:List Spn)(C:v.length<1048576):zqb Tryz.prog 244 [.ptr j 0] (λh=>h[j]? =some (.box 55 [spv v])) ((qR v).map (V2 v)):=by
 intro l K x c w d a A D
 have hex:∃(r:AV) (h':List Ob),K ((qR v).map (V2 v)).length h'/\ResK x h':=by
  obtain⟨h',q⟩:=a
  exact⟨.tup [],h',q⟩
 have G:=d 0 x c
 have t:=yX v
 refine zi Tryz.f244 [] 19 rfl rfl rfl rfl rfl rfl (by decide) (hex) λB=>?_
 simp only[go_sem,G,zb]
 refine zg (XAa _ _ v (xb _) C) ?_
 rintro _ L ⟨rfl,rfl⟩
 rw[zb] at a
 obtain⟨W,I⟩:∃W,W=qR v:=⟨_,rfl⟩
 rw[<-I] at t a D⊢
 simp only[go_sem,zb]
 refine zI (by decide) (λm T h'=>∃(i:Nat),i<=W.length/\K i h'/\T 0= .v (.func (.yield l) #[] #[])/\T 1= .ptr j 0/\T 6= .sl 1 (W.map qn)/\T 7=i64 W.length/\T 8=i64 i/\m=W.length - i) W.length
  ⟨0,by omega,c,by simp only[go_sem],by simp only[go_sem],by simp only[go_sem],by(simp only[go_sem]<;>rfl),by(simp only[go_sem]<;>rfl),rfl⟩ ?_
 rintro m T h' ⟨i,hi,u,t0,t1,t6,y,t8,rfl⟩
 simp only[go_sem,y,t8]
 refine ways (λe=>?_) (λe=>?_)
 ·have f:=dlt e
  have b:=XH f
  have k:(i:Int)<W.length:=by omega
  have p:=d i h' u
  have s:(W.map (V2 v))[i]? =some (V2 v W[i]):=by rw[zz,zj f];rfl
  have g:=D i _ h' s u
  obtain⟨z,E⟩:∃z,z=W[i]:=⟨_,rfl⟩
  rw[<-E] at b g
  simp only[go_sem,t0,t1,t6,t8,b,p,k,zb,Int.toNat_natCast,zh]
  refine zg (wqa _ _ v z (xb _) C) ?_
  rintro _ M ⟨rfl,rfl⟩
  simp only[go_sem]
  refine JQ g ?_
  rintro J ⟨n,H⟩
  simp only[go_sem,t8]
  exact⟨W.length - (i+1),by omega,i+1,by omega,n,t0,t1,t6,y,qf (by omega) rfl,rfl⟩
 ·have F:=j9 e
  have o:i=W.length:=by omega
  subst o
  simp only[go_sem]
  exact⟨_,rfl,.inl u⟩
theorem Qya(h:List Ob)(v:List Spn):ACalls Tryz.prog 185 [spv v] h λr h'=>r= .fn (.func 244) [] [.ptr h.length 0]/\h'=h++[.box 55 [spv v]]:=by
 refine zi Tryz.f185 [.tmp 2] 4 rfl rfl rfl rfl rfl rfl (by decide) (⟨_,_,⟨rfl,rfl⟩,resK_app⟩) λB=>?_
 simp only[go_sem]
 exact⟨_,rfl,.inl ⟨rfl,rfl⟩⟩
theorem XYa(h:List Ob)(j:Nat)(v:List Spn)(n:Int)(b:h[j]? =some (.box 55 [spv v]))(a:v.length<1048576)(c:Fit n):
  ACalls Tryz.prog 186 [i64 n,.ptr j 0] h λr h'=>r=spv (qP v n)/\h'=h:=by
 refine zi Tryz.f186 [.tmp 3] 7 rfl rfl rfl rfl rfl rfl (by decide) (⟨_,_,⟨rfl,rfl⟩,.refl⟩) λB=>?_
 simp only[go_sem,b]
 refine zg (jZa _ _ v n (xb _) a c) ?_
 rintro _ d ⟨rfl,rfl⟩
 simp only[go_sem]
 exact⟨_,by simp only[go_sem],.inl ⟨rfl,rfl⟩⟩
def Sv(y:AV)(R:List Spn):Prop:=y=spv R∨y= .v (.slice none 0 0)/\R=[]
theorem Sv.sl{h:List Ob}{y:AV}{R:List Spn}(k:Sv y R):SlOf h y 2 (R.map qJ):=by
 rcases k with rfl|⟨rfl,rfl⟩
 ·exact xb _
 ·exact⟨rfl,λh=>absurd rfl h⟩
def ZX(s:Setup)(W:List Spn)(l:List Int):List Spn:=l.flatMap λd=>qP (xm W d) s.dayReg
def Qo(s:Setup)(W:List Spn)(l:List Int):List Spn:=l.flatMap λd=>qP (xm W d) s.dayOver
def JA(s:Setup)(p:List Spn)(w:Int):List Spn × List Spn × List Spn:=
 let W:=jr p w
 let t:=qP (ZX s W (qR W)) s.weekReg
 (t,jD (Qo s W (qR W)) t,jD W (Qo s W (qR W)))
theorem yG(W:List Spn)(n:Int)(L:List Int)(c:L.Nodup):(L.flatMap λd=>qP (xm W d) n).length<=W.length+L.length:=by
 have h:=yPa (f:=λd=>qP (xm W d) n) (g:=xm W) (a:=1) (b:=0) (λd=>by
  have h:(qP (xm W d) n).length<=(qz (xm W d)).length:=xR _ _
  have e:=qj (xm W d)
  omega) L
 have e:=Xe W L c
 have i:=qj W
 omega
theorem XZa{s:Setup}{W:List Spn}{l:List Int}{n:Nat}(h:n<l.length):ZX s W (l.take (n+1))=ZX s W (l.take n)++qP (xm W l[n]) s.dayReg:=XJ h
theorem X0a{s:Setup}{W:List Spn}{l:List Int}{n:Nat}(h:n<l.length):Qo s W (l.take (n+1))=Qo s W (l.take n)++qP (xm W l[n]) s.dayOver:=XJ h
structure KOv (h:List Ob) (s:Setup) (a:SA) (W:List Spn) (l:List Int) (h':List Ob):Prop where
 pre:Pre h h'
 set_:h'[h.length]? =some (.box 30 (qg s a))
 reg:∃y,h'[h.length+1]? =some (.box 55 [y])/\Sv y (ZX s W l)
 ovr:∃y,h'[h.length+2]? =some (.box 55 [y])/\Sv y (Qo s W l)
 wk:h'[h.length+3]? =some (.box 55 [spv W])
theorem KOv.app{h:List Ob}{s:Setup}{a:SA}{W:List Spn}{l:List Int}{h':List Ob}(k:KOv h s a W l h'){M:List Ob}(b:NoRes M):KOv h s a W l (h'++M):=
 ⟨k.pre.app b,ze k.set_,let ⟨y,q1,q2⟩:=k.reg;⟨y,ze q1,q2⟩,let ⟨y,q1,q2⟩:=k.ovr;⟨y,ze q1,q2⟩,ze k.wk⟩
theorem KOv.raw{h:List Ob}{s:Setup}{a:SA}{W:List Spn}{b:List Int}{h':List Ob}(k:KOv h s a W b h'){j l o ks us o'}(f:h.length<=j)(d:h'[j]? =some (.raw l o ks us)):KOv h s a W b (h'.set j (.raw l o' ks us)):=by
 have c:∀(z:Nat) t cs,h'[z]? =some (.box t cs)->(h'.set j (.raw l o' ks us))[z]? =some (.box t cs):=λz t cs q=>by
  have:j≠z:=λe=>by rw[e,q] at d;cases d
  rw[zc this];exact q
 exact⟨k.pre.set f rfl,c _ _ _ k.set_,let ⟨y,q1,q2⟩:=k.reg;⟨y,c _ _ _ q1,q2⟩,let ⟨y,q1,q2⟩:=k.ovr;⟨y,c _ _ _ q1,q2⟩,c _ _ _ k.wk⟩
theorem KOv.put{h:List Ob}{s:Setup}{a:SA}{W:List Spn}{l l':List Int}{h':List Ob}(k:KOv h s a W l h'){M:List Ob}(c:NoRes M){y z:AV}(e:Sv y (ZX s W l'))(b:Sv z (Qo s W l')):
  KOv h s a W l' (((h'++M).set (h.length+1) (.box 55 [y])).set (h.length+2) (.box 55 [z])):=by
 obtain⟨g,f,_⟩:=k.reg
 obtain⟨z0,d,_⟩:=k.ovr
 have i:=(zd.1 f).1
 have l2:=(zd.1 d).1
 refine⟨((k.pre.app c).set (by omega) rfl).set (by omega) rfl,?_,⟨y,?_,e⟩,⟨z,?_,b⟩,?_⟩
 ·rw[zc (by omega),zc (by omega)];exact ze k.set_
 ·rw[zc (by omega),zp (by rw[zf];omega)]
 ·rw[zp (by rw[zN,zf];omega)]
 ·rw[zc (by omega),zc (by omega)];exact ze k.wk
theorem KOv.raws{h:List Ob}{s:Setup}{a:SA}{W:List Spn}{l:List Int}{h':List Ob}(k:KOv h s a W l h'){M:List Ob}{o o':Ob}:RawK h' (((h'++M).set (h.length+1) o).set (h.length+2) o'):=by
 obtain⟨d,c,_⟩:=k.reg
 obtain⟨z0,b,_⟩:=k.ovr
 exact(RawK.app.trans (.setB (ze c))).trans (.setB ((zc (by omega)).trans (ze b)))
theorem jGb(h:List Ob)(s:Setup)(a:SA)(k:SIn h s a)(f:SFit s)(R:z6 s=true)(x:AV)(p:List Spn)(w:Int)(u:SlOf h x 2 (p.map qJ))(hl:p.length<262144):
  ACalls Tryz.prog 115 [je s a,x,i64 w] h λr h'=>r= .tup [spv (JA s p w).1,spv (JA s p w).2.1,spv (JA s p w).2.2]/\h'=h:=by
 have X:=VZ R
 refine Wz Tryz.f115 [.tmp 6,.tmp 7,.tmp 8] 49 rfl rfl rfl rfl rfl rfl (⟨_,rfl⟩) λbs=>?_
 refine kK (by decide) ?_
 simp only[go_sem,k.ones]
 refine kK (by decide) ?_
 simp only[go_sem,k.ones]
 refine zg (c16 _ s a (k.app _) f) ?_
 rintro _ h1 ⟨rfl,rfl⟩
 simp only[go_sem,R,qt,Bool.not_true]
 refine kK (by decide) ?_
 simp only[go_sem]
 refine kK (by decide) ?_
 simp only[go_sem]
 refine zg (yFa _ x p w (u.app _) (by omega)) ?_
 rintro _ h1 ⟨rfl,rfl⟩
 simp only[go_sem]
 have β:(jr p w).length<=(qz p).length+1:=QG _ _ _
 have χ:=qj p
 obtain⟨W,hW⟩:∃W,W=jr p w:=⟨_,rfl⟩
 have Z:JA s p w=(qP (ZX s W (qR W)) s.weekReg,jD (Qo s W (qR W)) (qP (ZX s W (qR W)) s.weekReg),jD W (Qo s W (qR W))):=by rw[hW];rfl
 rw[Z]
 rw[<-hW] at β⊢
 refine zla ?_
 refine kK (by decide) ?_
 simp only[go_sem]
 refine zg (Qya _ W) ?_
 rintro _ h1 ⟨rfl,rfl⟩
 simp only[go_sem]
 have hdf:=yX W
 have base:KOv h s a W ((qR W).take 0) (h++[.box 30 (qg s a),.box 55 [.v (.slice none 0 0)],.box 55 [.v (.slice none 0 0)],.box 55 [spv W]]):=
  ⟨⟨_,rfl,zl rfl (zl rfl (zl rfl (zD rfl)))⟩,by rw[zM rfl];rfl,⟨_,by rw[zG (k:=1) rfl];rfl,.inr ⟨rfl,rfl⟩⟩,⟨_,by rw[zG (k:=2) rfl];rfl,.inr ⟨rfl,rfl⟩⟩,by rw[zG (k:=3) rfl];rfl⟩
 refine yIa (Wy (qVa (zma (p:=22) (by decide) rfl (by simp only[go_sem]) (Wfa (h.length+3) W (by omega))
  (λn h'=>KOv h s a W ((qR W).take n) h')
  (λn x E A=>E 3= .ptr h.length 0/\E 9= .ptr (h.length+1) 0/\E 10= .ptr (h.length+2) 0/\∃d j,(qR W)[n]? =some d/\E 12= .ptr j 0/\A[j]? =some (.box 55 [spv (xm W d)])/\j≠h.length+1/\j≠h.length+2/\KOv h s a W ((qR W).take n) A)
  ?_ (λn h' M C k=>k.app C) (λn h' k=>k.wk) ?_ ?_ ?_ ?_ ?_) ?_))
 ·exact λM C=>base.app C
 ·intro M C
  have q:=(base.app C).put (M:=[]) (l':=(qR W).take ((qR W).map (V2 W)).length) jh (.inl rfl) (.inl rfl)
  refine⟨_,q,(base.app C).pre.resK q.pre,(base.app C).raws⟩
 ·intro n h' j l o ks us o' V k L
  exact k.raw (Nat.le_trans (by rw[zf];exact Nat.le_add_right _ _) V) L
 ·rintro n x E A j l o ks us o' V ⟨t3,t9,t10,d,m,q1,q2,K,q4,q5,k⟩ L
  refine⟨t3,t9,t10,d,m,q1,q2,?_,q4,q5,k.raw (Nat.le_trans (by rw[zf];exact Nat.le_add_right _ _) V) L⟩
  have:j≠m:=λe=>by rw[e,K] at L;cases L
  rw[zc this];exact K
 ·intro bb l n x h' u k
  rw[zz] at u
  cases hs:(qR W)[n]? with
  | none=>rw[hs] at u;cases u
  | some d=>
    rw[hs] at u
    injection u with u
    subst u
    refine Jk (by decide) (by decide) ?_
    have ο:=(zd.1 k.wk).1
    simp only[go_sem,XDa,V2]
    exact⟨⟨d,h'.length,rfl,rfl,by rw[zM rfl];rfl,by omega,by omega,k.app (zD rfl)⟩,.app,.app⟩
 ·rintro bb l n x E A u ⟨t3,t9,t10,d,m,q1,q2,K,q4,q5,k⟩
  obtain⟨y,P,Q⟩:=k.reg
  obtain⟨z,G,I⟩:=k.ovr
  refine qUa (VYa (Jk (by decide) (by decide) ?_))
  simp only[go_sem,q2]
  refine XBa rfl [.res,.res] 2 [(1,0,[]),(2,0,[]),(8,0,[]),(9,0,[]),(0,0,[]),(3,0,[]),(7,0,[]),(10,0,[]),(4,0,[0,7,10]),(5,0,[]),(6,0,[7,10]),(11,0,[7]),(12,1,[]),(13,0,[]),(14,0,[]),(15,0,[])] rfl (by decide) (by decide) (by decide) (λ_ _ q=>by cases q.1) ?_
  have c:∀M,(A++M)[h.length+1]? =some (.box 55 [y]):=λM=>ze P
  have i:∀M,(A++M)[h.length+2]? =some (.box 55 [z]):=λM=>ze G
  have b:∀M,(A++M)[h.length]? =some (.box 30 (qg s a)):=λM=>ze k.set_
  have γ:=(Q.sl (h:=h)).cells
  have Y:=(Q.sl (h:=h)).one
  have ε:=(I.sl (h:=h)).cells
  have T:=(I.sl (h:=h)).one
  have g:=yF ((vF W).1.sublist (List.take_sublist n _))
  have F:=yG W s.dayReg _ g
  have B:=yG W s.dayOver _ g
  rw[zJ] at F B
  have υ:=QJ W d
  have ω:(qP (xm W d) s.dayReg).length<=(qz (xm W d)).length:=xR _ _
  have ψ:(qP (xm W d) s.dayOver).length<=(qz (xm W d)).length:=xR _ _
  have hf3:=qj (xm W d)
  have hdr:=X.dayReg
  have ρ:=X.dayOver
  obtain⟨J,U⟩:=zd.1 q1
  have e1:=XZa (s:=s) (W:=W) J
  have e2:=X0a (s:=s) (W:=W) J
  rw[U] at e1 e2
  simp only[go_sem,t3,t9,t10,c,i,b]
  refine zg (XYa _ m (xm W d) s.dayReg (ze K) (by omega) (by unfold Fit;omega)) ?_
  rintro _ H ⟨rfl,rfl⟩
  simp only[go_sem,Y,γ,t3,t9,t10,c,i,b]
  refine zg (zva _ A.length y _ (ZX s W ((qR W).take n)) (qP (xm W d) s.dayReg) (by rw[zM rfl];rfl) Q.sl (xb _) (by unfold ZX;omega) (by omega)) ?_
  rintro _ H ⟨rfl,rfl⟩
  rw[<-e1]
  simp only[go_sem,t3,t9,t10,c,i,b]
  refine zg (XYa _ m (xm W d) s.dayOver (ze K) (by omega) (by unfold Fit;omega)) ?_
  rintro _ H ⟨rfl,rfl⟩
  simp only[go_sem,T,ε,t3,t9,t10,c,i,b]
  refine zg (zva _ (A.length+1) z _ (Qo s W ((qR W).take n)) (qP (xm W d) s.dayOver) (by rw[zG (k:=1) rfl];rfl) I.sl (xb _) (by unfold Qo;omega) (by omega)) ?_
  rintro _ H ⟨rfl,rfl⟩
  rw[<-e2]
  have ne:h.length+1≠h.length+2:=by omega
  simp only[go_sem,t3,t9,t10,c,i,b,zc,ne,ne_eq,not_false_eq_true]
  exact⟨k.put (zl rfl (zD rfl)) (.inl rfl) (.inl rfl),k.raws,(KeepB.app.trans (.setL (by omega))).trans (.setL (by omega))⟩
 ·rintro e ds E A ⟨rfl,rfl,D,id,rfl,hid,S,k⟩
  rw[zf] at hid
  rw[zb,zP] at k
  obtain⟨y,P,Q⟩:=k.reg
  obtain⟨z,G,I⟩:=k.ovr
  have O:=k.pre
  have b:=k.set_
  have g:=yF (vF W).1
  have F:=yG W s.dayReg _ g
  have B:=yG W s.dayOver _ g
  have hwr:=X.weekReg
  have σ:(ZX s W (qR W)).length<=W.length+(qR W).length:=F
  have ξ:(Qo s W (qR W)).length<=W.length+(qR W).length:=B
  refine⟨rfl,(kK (by decide) ?_:XP _ _ _ _ _ _ _ _)⟩
  simp only[go_sem,P,G,b]
  refine zg (jZa _ y (ZX s W (qR W)) s.weekReg Q.sl (by omega) (by unfold Fit;omega)) ?_
  rintro _ H ⟨rfl,rfl⟩
  simp only[go_sem]
  obtain⟨t,N⟩:∃t,t=qP (ZX s W (qR W)) s.weekReg:=⟨_,rfl⟩
  have htl:t.length<=(qz (ZX s W (qR W))).length:=by rw[N];exact xR _ _
  have φ:=qj (ZX s W (qR W))
  rw[<-N]
  refine yIa (qWa (by decide) ?_)
  simp only[go_sem]
  refine zL rfl [] 0 [(0,0,[]),(2,0,[]),(4,0,[]),(1,0,[]),(5,0,[]),(3,0,[5]),(6,0,[]),(7,0,[]),(8,0,[]),(9,0,[])] rfl (by decide) (by decide) ?_
  simp only[go_sem,P,G]
  refine zg (Kq _ z _ (Qo s W (qR W)) t I.sl (xb _) (by omega) (by omega)) ?_
  rintro _ H ⟨rfl,rfl⟩
  simp only[go_sem,G]
  refine zg (Kq _ _ z W (Qo s W (qR W)) (xb _) I.sl (by omega) (by omega)) ?_
  rintro _ H ⟨rfl,rfl⟩
  simp only[go_sem,P,G]
  exact XIa (.inr ⟨D,id,rfl,by omega,S⟩) O (r:= .tup [spv t,spv (jD (Qo s W (qR W)) t),spv (jD W (Qo s W (qR W)))]) (λ_=>rfl) (Wea _ _ _) rfl
open Go.Shelf Go.RowKit Go.Lib Go.Sort
def Zk{α:Type}(enc:α->List Value)(l:List α):List Value:=(l.map enc).flatten
theorem XK{α:Type}(enc:α->List Value)(K:Nat)(a:∀x,(enc x).length=K):∀l:List α,(Zk enc l).length=l.length*K
 | []=>by simp[Zk]
 | x::l=>by
   have:=XK enc K a l
   simp only[Zk,List.map_cons,List.flatten_cons,zf,List.length_cons,a] at this⊢
   rw[this,Nat.succ_mul];omega
theorem zza{α:Type}(enc:α->List Value):∀l:List α,(l.map λx=>(enc x).map AV.v).flatten=(Zk enc l).map .v
 | []=>rfl
 | x::l=>by
   have:=zza enc l
   simp only[Zk,List.map_cons,List.flatten_cons,zw] at this⊢
   rw[this]
section
variable {α:Type} [Inhabited α] (enc:α->List Value) (K:Nat)
theorem Vk(f:0<K)(a:∀x,(enc x).length=K):∀(l:List α) (t:Nat),t<l.length*K->(Zk enc l)[t]? =some ((enc l.toArray[t / K]!)[t % K]!)
 | [],t,h=>by simp at h
 | x::l,t,h=>by
   by_cases b:t<K
   ·have c:(Zk enc (x::l))[t]? =(enc x)[t]? :=by
     simp only[Zk,List.map_cons,List.flatten_cons]
     rw[zO (by rw[a];exact b)]
    have e:t<(enc x).length:=by rw[a];exact b
    rw[c,Nat.div_eq_of_lt b,Nat.mod_eq_of_lt b,zj e]
    simp[getElem!_pos (enc x) t e]
   ·have c:(Zk enc (x::l))[t]? =(Zk enc l)[t - K]? :=by
     simp only[Zk,List.map_cons,List.flatten_cons]
     rw[zX (by rw[a];omega),a]
    have d:t - K<l.length*K:=by rw[List.length_cons,Nat.succ_mul] at h;omega
    rw[c,Vk f a l _ d]
    have g:t / K=(t - K) / K+1:=by rw[Nat.div_eq_sub_div f (by omega)]
    have i:t % K=(t - K) % K:=Nat.mod_eq_sub_mod (by omega)
    rw[g,i]
    simp
theorem WH(c:0<K)(a:∀x,(enc x).length=K)(l:List α):(flatK enc K l.toArray).toList=Zk enc l:=by
 apply qX
 intro t
 by_cases b:t<l.length*K
 ·rw[Vk enc K c a l t b]
  simp[flatK,b]
 ·rw[qB (by simp;omega),qB (by rw[XK enc K a];omega)]
theorem X1a{P:Program}{f Y:FuncId}{ty:TypeId}(hK:0<K)(m:∀x,(enc x).length=K)(lt:α->α->Bool)(I:Ys P f=true)
  (hex:∀l:List α,∃l':List α,l'.Perm l/\l'.Pairwise λa b=>lt b a=false)
  (hc:∀(blk off cap:Nat) (d:Array α) (w:World),HoldsK enc K w blk off d->blk<w.heap.size->d.size<4611686018427387904->Calls P f #[.slice (some ⟨blk,off,none⟩) d.size cap,.func (.func Y) #[] #[]] w λe w'=>e= .returned (.tuple #[])/\∃c n os,PermIn 0 d.size d c/\SortedIn lt 0 d.size c/\w'=sortWorldK enc K w blk off n c os)
  (O:∀(A:Option Addr) (cap:Nat) (w:World),Calls P f #[.slice A 0 cap,.func (.func Y) #[] #[]] w λe w'=>e= .returned (.tuple #[])/\w'=w)
  (h:List Ob) (id st:Nat) (l:List α) (L:h[id]? =some (.row ty K (l.map λx=>(enc x).map .v) st)) (hl:l.length<1099511627776):
  ACalls P f [.tl id st,.fn (.func Y) [] []] h λr h'=>r= .tup []/\∃l':List α,l'.Perm l/\(l'.Pairwise λa b=>lt b a=false)/\h'=h.set id (.row ty K (l'.map λx=>(enc x).map .v) st):=by
 refine⟨I,?_,?_⟩
 ·obtain⟨l',q1,N⟩:=hex l
  exact⟨_,_,⟨rfl,l',q1,N,rfl⟩,qi L rfl⟩
 ·intro φ hu B w g vs W hB C
  have E:(fill φ h)[id]? =some (.row ty K (l.map λx=>(enc x).map .v) st):=qL L rfl
  obtain⟨v1,r1,rfl,⟨_,V,G⟩,v2,r2,rfl,⟨us,vs,rfl,q,s⟩,S⟩:=C
  have S:r2=[]:=S
  subst S
  have q:us.toList=[]:=q
  have s:vs.toList=[]:=s
  have q:us= #[]:=by simpa using q
  have s:vs= #[]:=by simpa using s
  subst q;subst s
  have e0:v1=g.cur id:=(G st (by simp[ctx,E,Ob.tok])).2 rfl
  obtain⟨q0,q1,cells,N,q3⟩:=W.ok id _ E
  rw[zza] at q3
  have e1:=Vf q3
  subst e1
  by_cases F:l=[]
  ·subst F
   have Q:∃A k,g.cur id= .slice A 0 k:=by
    rcases N.2 with⟨o,_⟩|⟨z,cap,cur,o,_⟩
    ·exact⟨_,_,o⟩
    ·exact⟨_,_,o⟩
   obtain⟨A,k,Q⟩:=Q
   rw[e0,Q]
   refine(O A k w).mono ?_
   rintro e w' ⟨rfl,rfl⟩
   exact⟨_,_,_,_,rfl,⟨rfl,[],.refl _,.nil,(qS L).symm⟩,.refl,Good.refl W hB, #[],rfl,rfl⟩
  rcases N.2 with⟨_,o⟩|⟨z,cap,cur,o,e4,M,U,e7,e8,e9⟩
  ·exfalso
   simp at o
   exact F o
  ·have o:g.cur id=_:=o
   simp only[zb] at o U e9
   have Z:l.length*K<=cur.size:=by rw[e8];exact Nat.mul_le_mul_right _ U
   have T:∀j,j<l.length*K->cur[j]? =some ((enc l.toArray[j / K]!)[j % K]!):=λj u=>by
    rw[<-Vk enc K hK m l j u, <-e9,qY,if_pos u,qC]
   have hH:HoldsK enc K w z 0 l.toArray:=λj u=>by
    have u:j<l.length*K:=by simpa using u
    refine⟨?_,?_⟩
    ·simp only[World.cell?,M,Nat.zero_add]
     rw[get_flatK _ _ _ _ (by simpa using u)]
     exact T j u
    ·simp[World.frozen?,M]
   have p:=hc z 0 cap l.toArray w hH (qN.1 M).1 (by simp;omega)
   rw[e0,o]
   have X:l.toArray.size=l.length:=by simp
   rw[X] at p
   refine p.mono ?_
   rintro e w' ⟨rfl,c,n,os,hp,hs,rfl⟩
   obtain⟨p1,p2,p3⟩:=hp
   have H:c.size=l.length:=by rw[p1];simp
   have y:c.toList.Perm l:=by
    have a1:c.extract 0 l.length=c:=by rw[<-H];simp
    have a2:l.toArray.extract 0 l.length=l.toArray:=by simp
    rw[a1,a2] at p3
    exact p3
   have D:c.toList.Pairwise λa b=>lt b a=false:=by
    rw[List.pairwise_iff_getElem]
    intro i j hi u R
    simp only[qF] at hi u
    have:=hs i j (by omega) R (by omega)
    rw[getElem!_pos c i hi,getElem!_pos c j u] at this
    simpa using this
   have hF:(flatK enc K c).toList=Zk enc c.toList:=WH enc K hK m c.toList
   have J:(flatK enc K c).size=l.length*K:=by simp[H]
   have t:=Zy (w':=sortWorldK enc K w z 0 n c os) (v':=g.cur id) (st':=st) (xs':=c.toList.map λx=>(enc x).map .v) (cells:=Zk enc c.toList) W hB E (by simp[m]) (by rw[o];exact VU w z n _ os)
    ⟨by rw[XK enc K m];simp,.inr ⟨z,cap,_,by simp[o,H],e4,zaa w z n _ os M,by simp[H];exact U,e7,by simp[putCells];exact e8,by
     have:=zba (flatK enc K c) cur (by rw[J];exact Z)
     rw[hF,J] at this
     simpa [H] using this⟩⟩ (by rw[zza];exact JM _) (.inl ⟨rfl,rfl⟩) (λb hb=> .inl hb)
   rw[<-jj rfl] at t
   exact⟨_,_,_,_,rfl,⟨rfl,c.toList,y,D,rfl⟩,qi L rfl,t, #[],rfl,rfl⟩
end
structure Pt where
 from_:Int
 to_:Int
 kind:Int
instance:Inhabited Pt:=⟨⟨0,0,0⟩⟩
def yQa(x:Pt):List Value:=[.int .i64 x.from_,.int .i64 x.to_,.int .i64 x.kind]
def ptC(x:Pt):List AV:=[i64 x.from_,i64 x.to_,i64 x.kind]
theorem YFa{n:Nat}:∀l:List Pt,qM n (l.map ptC)=true
 | []=>rfl
 | s::l=>by
   rw[List.map_cons,qM,YFa l];rfl
set_option maxHeartbeats 1000000 in
theorem Qza(x y:Pt)(W:World):Calls Tryz.prog 121 #[.agg #[.int .i64 x.from_,.int .i64 x.to_,.int .i64 x.kind],.agg #[.int .i64 y.from_,.int .i64 y.to_,.int .i64 y.kind]] W λe w'=>e= .returned (.int .i64 (Lib.compareInt x.from_ y.from_))/\∃q b,w'=grow (W.drewN q) b:=by
 have a:=λc=>AnyG.cmp_Compare_int wka x.from_ y.from_ c
 change ∀c,Calls Tryz.prog 122 _ _ _ at a
 generalize Lib.compareInt x.from_ y.from_=r at a⊢
 go_enter Tryz.func121,Tryz.ntmps121
 go_wp2_with (go_at_call 122;refine(a _).mono ?_;rintro e w' ⟨rfl,rfl⟩)
 go_ret
 exact⟨rfl,0,_,by rw[alloc_eq_grow,alloc_eq_grow,grow_grow];rfl⟩
theorem QAa(blk off size:Nat)(w:World):CmpLays Tryz.prog 121 #[] yQa 3 (λx y=>Lib.compareInt x.from_ y.from_) blk off size w:=
 λ_ _ _ _ x y=>Qza x y _
theorem Wga(x y:Pt):ltOf (λx y:Pt=>Lib.compareInt x.from_ y.from_) x y=decide (x.from_<y.from_):=by
 unfold ltOf Lib.compareInt
 by_cases a:x.from_<y.from_
 ·simp[a]
 ·by_cases b:y.from_<x.from_<;>simp[a,b]
theorem jHb:SWO (ltOf λx y:Pt=>Lib.compareInt x.from_ y.from_):=
 { irrefl:=λx=>by rw[Wga];simp
   trans:=λx y z a b=>by rw[Wga] at *; simp at *; omega
   ntrans:=λx y z a b=>by rw[Wga] at *; simp at *; omega }
theorem Wha(h:List Ob)(id st:Nat)(l:List Pt)(k:h[id]? =some (.row 194 3 (l.map ptC) st))(n:l.length<1099511627776):
  ACalls Tryz.prog 120 [.tl id st,.fn (.func 121) [] []] h λr h'=>r= .tup []/\∃l':List Pt,l'.Perm l/\(l'.Pairwise λa b=>ltOf (λx y:Pt=>Lib.compareInt x.from_ y.from_) b a=false)/\h'=h.set id (.row 194 3 (l'.map ptC) st):=by
 refine X1a yQa 3 (by decide) (λ_=>rfl) (ltOf λx y:Pt=>Lib.compareInt x.from_ y.from_) (by kernel_rfl) (λl=>?_) ?_ ?_ h id st l k n
 ·refine⟨_,List.mergeSort_perm l (λa b=>decide (a.from_<=b.from_)),?_⟩
  have:=List.pairwise_mergeSort (le:=λa b:Pt=>decide (a.from_<=b.from_)) (λa b c p o=>by simp at *; omega) (λa b=>by simp;omega) l
  exact this.imp λh=>by rw[Wga];simpa using h
 ·intro blk off cap d w j f g
  have m:∀args w,(callFunc 121 args).run Tryz.prog w= .ok (.enter 121 args) w:=enters_of Tryz.func121 (by kernel_rfl) rfl
  have e:=AnyQ.slices_SortFunc zAa 3 Tryz.isAgg194 Tryz.sizeOf194 yQa (λ_=>rfl) (λx v i=>by simp[yQa] at i;rcases i with rfl|rfl|rfl<;>rfl) (λx y=>Lib.compareInt x.from_ y.from_) jHb 121 #[] blk off cap d w m (QAa blk off d.size w) j f g
  exact e
 ·intro A cap w
  have e:=AnyF.slices_SortFunc_none zAa A cap (.func (.func 121) #[] #[]) w
  exact e
theorem X2a(x:AV):xA Tryz.prog 120 [.v (.slice none 0 0),x] (.tup []):=λh=>by
 refine⟨by kernel_rfl,⟨_,_,⟨rfl,rfl⟩,.refl⟩,?_⟩
 intro φ l B w g vs f hB a
 obtain⟨v1,k,rfl,d,j,i,rfl,_,c⟩:=a
 have c:i=[]:=c
 subst c
 have d:v1= .slice none 0 0:=d
 subst d
 have b:=AnyF.slices_SortFunc_none zAa none 0 j w
 refine Calls.mono b ?_
 rintro e w' ⟨rfl,rfl⟩
 exact⟨_,_,_,_,rfl,⟨rfl,rfl⟩,.refl,Good.refl f hB, #[],rfl,rfl⟩
def ZY(l:List Spn)(k:Int):List Pt:=l.map λs=>⟨s.from_,s.to_,k⟩
theorem yY(l:List Spn)(k:Int):(ZY l k).length=l.length:=by simp[ZY]
theorem zzb(F:List (Nat × Ob))(h0 h:List Ob)(i:Nat)(p:List Pt)(l:List Spn)(a:Int)(k:LIn F h0 h i 126 194 3 (p.map ptC))(N:p.length<1073741824)(O:l.length<1073741824):
  ACalls Tryz.prog 116 [spv l,i64 a,.ptr i 0] h λr h'=>r= .tup []/\LIn F h0 h' i 126 194 3 ((p++ZY l a).map ptC):=by
 have hex:∃r h',(r=AV.tup []/\LIn F h0 h' i 126 194 3 ((p++ZY l a).map ptC))/\ResK h h':=by
  obtain⟨h',E,J⟩:=k.any ((p++ZY l a).map ptC)
  exact⟨_,h',⟨rfl,E⟩,J⟩
 refine zi Tryz.f116 [] 23 rfl rfl rfl rfl rfl rfl (by decide) (hex) λB=>?_
 simp only[go_sem,zb]
 refine zI (by decide) (λm T h'=>∃n:Nat,n<=l.length/\LIn F h0 h' i 126 194 3 ((p++ZY (l.take n) a).map ptC)/\T 1=i64 a/\T 2= .ptr i 0/\T 7=spv l/\T 8=i64 l.length/\T 9=i64 n/\m=l.length - n) l.length
  ⟨0,by omega,by simpa [ZY] using k,by simp only[go_sem],by simp only[go_sem],by simp only[go_sem],by(simp only[go_sem]<;>rfl),by(simp only[go_sem]<;>rfl),rfl⟩ ?_
 clear k hex
 rintro m T h' ⟨n,L,k,t1,t2,A,t8,t9,rfl⟩
 simp only[go_sem,t8,t9]
 refine ways (λe=>?_) (λe=>?_)
 ·have t:=dlt e
  have c:=Ji t
  have j:(n:Int)<l.length:=by omega
  have b:(p++ZY (l.take (n+1)) a).map ptC=(p++ZY (l.take n) a).map ptC++[[i64 (l[n]).from_,i64 (l[n]).to_,i64 a]]:=by
   rw[show l.take (n+1)=l.take n++[l[n]] from(zE t).symm]
   simp only[ZY,zw,List.map_cons,List.map_nil,zt]
   rfl
  have f:((p++ZY (l.take n) a).length+1)*25<=140737488355328:=by
   rw[zf,yY,zJ];omega
  obtain⟨z,C⟩:∃z,z=l[n]:=⟨_,rfl⟩
  rw[<-C] at c b
  obtain⟨P,G⟩:∃P,P=(p++ZY (l.take n) a):=⟨_,rfl⟩
  rw[<-G] at b f k
  obtain⟨K,d,x⟩:=k.at_
  have hi:=k.lt
  have g:∀M,(h'++M)[i]? =some (.box 126 [K]):=λM=>ze d
  rcases x with⟨rfl,s⟩|⟨id,st,H,rfl,u⟩
  ·simp only[go_sem,t1,t2,A,t9,c,j,d,g,zb,Int.toNat_natCast,zh]
   rw[s,List.nil_append] at b
   have q:=k.push_nil (M:=[.box 143 (qJ z),.row 194 3 [[i64 z.from_,i64 z.to_,i64 a]] 0,.row 194 3 [[i64 z.from_,i64 z.to_,i64 a]] 0]) (zl rfl (zl rfl (zD rfl))) (id:=h'.length+2) (by omega) (by rw[zG (k:=2) rfl];rfl)
   rw[<-b] at q
   exact⟨l.length - (n+1),by omega,n+1,by omega,by rw[b] at q ⊢;exact q,t8,qf (by omega) rfl,rfl⟩
  ·have I:∀M,(h'++M)[id]? =some (.row 194 3 (P.map ptC) st):=λM=>ze u
   have v:id≠i:=λq=>by rw[q,d] at u;cases u
   have o:∀M o',((h'++M).set id o')[i]? =some (.box 126 [.tl id st]):=λM o'=>by
    rw[zc v];exact g M
   simp only[go_sem,t1,t2,A,t9,c,j,d,g,I,o,f,zb,Int.toNat_natCast,zh]
   have y:∀M,NoRes M->LIn F h0 (((h'++M).set id (.row 194 3 (P.map ptC++[[i64 z.from_,i64 z.to_,i64 a]]) (st+1))).set i (.box 126 [.tl id (st+1)])) i 126 194 3 ((p++ZY (l.take (n+1)) a).map ptC):=λM y=>by
    rw[b];exact k.push_own y H u
   exact⟨l.length - (n+1),by omega,n+1,by omega,y _ (zl rfl (zD rfl)),t8,qf (by omega) rfl,rfl⟩
 ·have D:=j9 e
  have w:n=l.length:=by omega
  subst w
  rw[zP] at k
  simp only[go_sem]
  exact⟨_,rfl,.inl ⟨rfl,k⟩⟩
theorem kFa{P:Program}{f:FuncId}{ar:List AV}{h:List Ob}{α:Type}{S:α->Prop}{g:α->List (List AV)}{e:Nat}(s:0<e)(n:∀q,qM h.length (g q)=true)(c:ACalls P f ar h λr h'=>∃q,S q/\∃L,h'=h++L/\NoRes L/\New h e r (g q) L):ACalls P f ar h λr h'=>(∃q,S q/\r= .sl e (g q))/\h'=h:=by
 refine⟨c.1,(let ⟨_,_,⟨q,i,_⟩,_⟩:=c.2.1;⟨_,_,⟨⟨q,i,rfl⟩,rfl⟩,.refl⟩),λφ l B w o vs k hB b=>?_⟩
 refine(c.2.2 φ l B w o vs k hB b).mono λu w' ⟨v,r,h',g',t,⟨q,i,L,p,_,j⟩,_,d,m⟩=>?_
 subst p
 rw[jW l] at d m
 have a:(fill φ h).length=h.length:=jo
 refine⟨v,_,h,g',t,⟨⟨q,i,rfl⟩,rfl⟩,.refl,d.drop rfl (by have:=k.ids;exact this),?_⟩
 exact Jg d.ok s m (j _ a) (λid hid=>by rw[a];exact j.root id hid) (by rw[a];exact n q)
def oj(o:List Spn × List Spn × List Spn):Nat->List Spn
 | 0=>o.1
 | 1=>o.2.1
 | _=>o.2.2
def XR(s:Setup)(o:List Spn × List Spn × List Spn)(a:List Spn):Nat->List Pt
 | 0=>ZY a 0
 | j+1=>XR s o a j++ZY (jD (oj o j) (xc s (oj o j))) (1+j)++ZY (xc s (oj o j)) (4+j)
def vt(s:Setup)(l:List Seg)(w:Int):List Pt:=XR s (JA s (yh s l) w) (jr (we s l) w) 3
theorem V3(s:Setup)(l:List Spn):(xc s l).length<=l.length+742:=by
 unfold xc
 split
 ·have e:=zea l (ws s (qR l))
  have d:=qj l
  have c:=qj (ws s (qR l))
  have a:=Jl s (qR l)
  have b:=yX l
  omega
 ·simp
theorem kGa(s:Setup)(p:List Spn)(w:Int):(JA s p w).1.length<=p.length+372/\(JA s p w).2.1.length<=2*p.length+745/\(JA s p w).2.2.length<=2*p.length+745:=by
 have a:=yF (vF (jr p w)).1
 have h:=yG (jr p w) s.dayReg _ a
 have g:=yG (jr p w) s.dayOver _ a
 have n:=yX (jr p w)
 have i:(jr p w).length<=(qz p).length+1:=QG _ _ _
 have j:=qj p
 have o:(qP (ZX s (jr p w) (qR (jr p w))) s.weekReg).length<=(qz (ZX s (jr p w) (qR (jr p w)))).length:=xR _ _
 have k:=qj (ZX s (jr p w) (qR (jr p w)))
 have l:=xz (Qo s (jr p w) (qR (jr p w))) (qP (ZX s (jr p w) (qR (jr p w))) s.weekReg)
 have m:=xz (jr p w) (Qo s (jr p w) (qR (jr p w)))
 have d:=qj (Qo s (jr p w) (qR (jr p w)))
 have e:=qj (jr p w)
 have f:=qj (qP (ZX s (jr p w) (qR (jr p w))) s.weekReg)
 have c:(ZX s (jr p w) (qR (jr p w))).length<=(jr p w).length+(qR (jr p w)).length:=h
 have b:(Qo s (jr p w) (qR (jr p w))).length<=(jr p w).length+(qR (jr p w)).length:=g
 refine⟨?_,?_,?_⟩
 ·show(qP (ZX s (jr p w) (qR (jr p w))) s.weekReg).length<=_;omega
 ·show(jD (Qo s (jr p w) (qR (jr p w))) (qP (ZX s (jr p w) (qR (jr p w))) s.weekReg)).length<=_;omega
 ·show(jD (jr p w) (Qo s (jr p w) (qR (jr p w)))).length<=_;omega
theorem Wia(h:List Ob)(s:Setup)(a:SA)(k:SIn h s a)(f:SFit s)(u:z6 s=true)(x:AV)(l:List Seg)(w:Int)(hx:SlOf h x 5 (l.map xT))(hl:l.length<32768):
  ACalls Tryz.prog 57 [je s a,x,i64 w] h λr h'=>∃q:List Pt,q.Perm (vt s l w)/\∃L,h'=h++L/\NoRes L/\New h 3 r (q.map ptC) L:=by
 have hex:∃r h',(∃q:List Pt,q.Perm (vt s l w)/\∃L,h'=h++L/\NoRes L/\New h 3 r (q.map ptC) L)/\ResK h h':=
  ⟨.sl 3 _,_,⟨_,.refl _,[],rfl,jh,λ_ _=>⟨rfl,λ_=>rfl⟩⟩,resK_app⟩
 refine zi Tryz.f57 [.tmp 6] 68 rfl rfl rfl rfl rfl rfl (by decide) (hex) λB=>?_
 simp only[go_sem,k.ones]
 refine zg (c16 _ s a (k.app _) f) ?_
 rintro _ D ⟨rfl,rfl⟩
 simp only[go_sem,u,qt,Bool.not_true]
 refine zg (jFb _ s a (k.app _) f u x l (hx.app _) hl) ?_
 rintro _ D ⟨rfl,rfl⟩
 simp only[go_sem]
 have υ:=kDa s l
 have ω:=kEa s l
 refine zg (jGb _ s a (k.app _) f u _ (yh s l) w (xb _) (by omega)) ?_
 rintro _ D ⟨rfl,rfl⟩
 simp only[go_sem]
 refine zg (yFa _ _ (we s l) w (xb _) (by omega)) ?_
 rintro _ D ⟨rfl,rfl⟩
 simp only[go_sem]
 obtain⟨o,V⟩:∃o,o=JA s (yh s l) w:=⟨_,rfl⟩
 obtain⟨b,y⟩:∃b,b=jr (we s l) w:=⟨_,rfl⟩
 have Q:vt s l w=XR s o b 3:=by rw[V,y];rfl
 have Z:=kGa s (yh s l) w
 have δ:b.length<=(qz (we s l)).length+1:=by rw[y];exact QG _ _ _
 have ε:=qj (we s l)
 rw[Q]
 rw[<-V] at Z
 rw[<-V, <-y]
 have M:∀j,(oj o j).length<=468401:=λj=>by
  unfold oj
  split<;>omega
 have d:∀j,(XR s o b j).length<=240000+j*2000000:=λj=>by
  induction j with
  | zero=>show(ZY b 0).length<=_;rw[yY];omega
  | succ j ih=>
    have D:=xz (oj o j) (xc s (oj o j))
    have C:=qj (oj o j)
    have h3:=qj (xc s (oj o j))
    have h4:=V3 s (oj o j)
    have h5:=M j
    rw[XR,zf,zf,yY,yY];omega
 have base:LIn [(h.length,Ob.box 30 (qg s a))] h (h++[.box 30 (qg s a),.box 126 [.v (.slice none 0 0)]]) (h.length+1) 126 194 3 (([]:List Pt).map ptC):=
  ⟨⟨_,rfl,zl rfl (zD rfl)⟩,by omega,(λz hz=>by rw[zW] at hz;subst hz;exact⟨by show h.length≠h.length+1;omega,⟨_,_,rfl⟩,by rw[zM rfl];rfl⟩),_,by rw[zG (k:=1) rfl];rfl,.inl ⟨rfl,rfl⟩⟩
 refine zg (zzb _ h _ (h.length+1) [] b 0 base (by decide) (by omega)) ?_
 rintro _ D ⟨rfl,k1⟩
 rw[List.nil_append] at k1
 simp only[go_sem]
 obtain⟨G,A⟩:∃G,G=AV.fn (.func 116) [] [.ptr (h.length+1) 0]:=⟨_,rfl⟩
 rw[<-A]
 refine zI (by decide) (λm T h'=>∃j:Nat,j<=3/\LIn [(h.length,Ob.box 30 (qg s a))] h h' (h.length+1) 126 194 3 ((XR s o b j).map ptC)/\T 3= .ptr h.length 0/\T 12= .ptr (h.length+1) 0/\T 13=G/\T 43= .ag [spv o.1,spv o.2.1,spv o.2.2]/\T 44=i64 j/\m=3 - j) 3
  ⟨0,by omega,k1,by simp only[go_sem],by simp only[go_sem],by simp only[go_sem],by simp only[go_sem],by(simp only[go_sem]<;>rfl),rfl⟩ ?_
 clear k1 base
 rintro m T h' ⟨j,hj,k1,t3,g,c,K,t44,rfl⟩
 simp only[go_sem,t44]
 refine ways (λe=>?_) (λe=>?_)
 ·have Y:(j:Int)<3:=of_decide_eq_true e
  have I:j<3:=by omega
  have i:nth [spv o.1,spv o.2.1,spv o.2.2] j=spv (oj o j):=by
   have:j=0∨j=1∨j=2:=by omega
   rcases this with rfl|rfl|rfl<;>rfl
  have F:=M j
  have φ:=d j
  have ν:=d (j+1)
  have W:h'[h.length]? =some (.box 30 (qg s a)):=k1.keep (.head _)
  obtain⟨O,hO⟩:∃O,O=oj o j:=⟨_,rfl⟩
  have α:XR s o b (j+1)=XR s o b j++ZY (jD O (xc s O)) (1+j)++ZY (xc s O) (4+j):=by rw[hO];rfl
  rw[<-hO] at i F
  simp only[go_sem,t3,c,K,t44,i,Y,I,W,A,Nat.mul_one,Int.toNat_natCast,zh]
  refine zg (zxb _ s a (k1.pre.sin k) f _ O (xb _) (by omega)) ?_
  rintro _ C ⟨rfl,rfl⟩
  have hnl:=V3 s O
  simp only[go_sem,c,A]
  refine zg (Kq _ _ _ O (xc s O) (xb _) (xb _) (by omega) (by omega)) ?_
  rintro _ C ⟨rfl,rfl⟩
  have w1:IntKind.wrap .i64 (1+(j:Int))=1+(j:Int):=qp (n:=1+(j:Int)) (by unfold Fit;omega)
  have w2:IntKind.wrap .i64 (1+(j:Int)+3)=4+(j:Int):=(qp (n:=1+(j:Int)+3) (by unfold Fit;omega)).trans (by omega)
  have ρ:=xz O (xc s O)
  have ζ:=qj O
  have κ:=qj (xc s O)
  simp only[go_sem,c,A,w1]
  refine zg (zzb _ h _ (h.length+1) (XR s o b j) (jD O (xc s O)) (1+j) k1 (by omega) (by omega)) ?_
  rintro _ C ⟨rfl,k2⟩
  simp only[go_sem,c,A,w1,w2]
  refine zg (zzb _ h _ (h.length+1) _ (xc s O) (4+j) k2 (by rw[zf,yY];omega) (by omega)) ?_
  rintro _ h3 ⟨rfl,k3⟩
  rw[<-α] at k3
  simp only[go_sem,t44]
  exact⟨3 - (j+1),by omega,j+1,by omega,k3,t3,g,by rw[c,A],K,qf (by omega) rfl,rfl⟩
 ·have τ:¬ (j:Int)<3:=of_decide_eq_false e
  have β:j=3:=by omega
  subst β
  obtain⟨x2,p,E⟩:=k1.at_
  have σ:=d 3
  have t:=k1.pre
  have μ:AV.cells x2=some [x2]:=E.rows.cells
  rcases E with⟨rfl,H⟩|⟨id,st,u1,rfl,N⟩
  ·simp only[go_sem,g,p]
   refine zg (X2a _ _) ?_
   rintro _ C ⟨rfl,e2⟩
   rw[e2]
   simp only[go_sem,g,p]
   obtain⟨L,X,U⟩:=t
   exact⟨_,rfl,.inl ⟨XR s o b 3,.refl _,L,X,U,by rw[H];exact λC _=>⟨rfl,λh=>absurd rfl h⟩⟩⟩
  ·simp only[go_sem,g,p]
   refine zg (Wha _ id st _ N (by omega)) ?_
   rintro _ C ⟨rfl,q,q1,q2,rfl⟩
   have P:id≠h.length+1:=λq=>by rw[q,p] at N;cases N
   have S:(h'.set id (.row 194 3 (q.map ptC) st))[h.length+1]? =some (.box 126 [.tl id st]):=by rw[zc P];exact p
   simp only[go_sem,g,S]
   have R:Pre h (h'.set id (.row 194 3 (q.map ptC) st)):=t.set u1 rfl
   have J:OwnS h (h'.set id (.row 194 3 (q.map ptC) st)) 194 3 (.tl id st) (q.map ptC):= .inr ⟨id,st,u1,rfl,zp (zd.1 N).1⟩
   obtain⟨L,X,U⟩:=R
   rw[X] at J⊢
   exact⟨_,rfl,.inl ⟨q,q1,L,rfl,U,J.new (zo _)⟩⟩
theorem zAb(h:List Ob)(s:Setup)(a:SA)(k:SIn h s a)(f:SFit s)(b:z6 s=true)(x:AV)(l:List Seg)(w:Int)(c:SlOf h x 5 (l.map xT))(d:l.length<32768):
  ACalls Tryz.prog 57 [je s a,x,i64 w] h λr h'=>(∃q:List Pt,q.Perm (vt s l w)/\r= .sl 3 (q.map ptC))/\h'=h:=
 kFa (by decide) (λq=>YFa q) (Wia h s a k f b x l w c d)
end Go.Proofs.YtigdlmpjijhpaaaGreat.Ax
namespace Go.Proofs.YtigdlmpjijhpaaaGreat.Ax
open Go Go.Proofs
set_option maxRecDepth 100000
def yH(f:Nat->Int):List AV:=[i64 (f 0),i64 (f 1),i64 (f 2),i64 (f 3),i64 (f 4),i64 (f 5),i64 (f 6)]
theorem kHa(f:Nat->Int){k:Nat}(a:k<7)(v:Int):lay (yH f) k [i64 v]=some (yH λj=>if j=k then v else f j):=by
 have:k=0∨k=1∨k=2∨k=3∨k=4∨k=5∨k=6:=by omega
 rcases this with rfl|rfl|rfl|rfl|rfl|rfl|rfl<;>rfl
theorem X3a(f:Nat->Int){k:Nat}(a:k<7):nth (yH f) k=i64 (f k):=by
 have:k=0∨k=1∨k=2∨k=3∨k=4∨k=5∨k=6:=by omega
 rcases this with rfl|rfl|rfl|rfl|rfl|rfl|rfl<;>rfl
theorem zBa(f:Nat->Int):cut (yH f) 0 7=some (yH f):=rfl
theorem kIa(f g:Nat->Int):lay (yH f) 0 (yH g)=some (yH g):=rfl
theorem X4a(f:Nat->Int):(yH f).all AV.one=true:=rfl
theorem X5a(f:Nat->Int):(yH f).length=7:=rfl
attribute [go_sem] zBa kIa X4a X5a
def ptS(p:Pt):Spn:=⟨p.from_,p.to_⟩
def yo(q:List Pt)(k:Int):List Spn:=(q.filter λp=>p.kind==k).map ptS
theorem wya(q:List Pt)(k:Int)(p:Pt):yo (q++[p]) k=if p.kind==k then yo q k++[ptS p] else yo q k:=by
 unfold yo
 rw[qu,zw]
 cases h:p.kind==k<;>simp[h]
theorem q3a(q:List Pt)(k:Int):(yo q k).length<=q.length:=by
 unfold yo
 rw[zb]
 exact qw _ q
def ZZ(q:List Pt)(k:Int):Int:=jR (qz (yo q k))
theorem zBb{l:List Pt}{i:Nat}(h:i<l.length):(l.map ptC)[i]? =some (ptC l[i]):=by rw[zz,zj h];rfl
theorem wza{q:List Pt}{n:Nat}(h:n<q.length)(k:Int):yo (q.take (n+1)) k=if(q[n]).kind==k then yo (q.take n) k++[ptS q[n]] else yo (q.take n) k:=by
 rw[show q.take (n+1)=q.take n++[q[n]] from(zE h).symm,wya]
theorem xq{h0 h':List Ob}{i id:Nat}{ty e:Nat}{rows:List (List AV)}{st:Nat}{o:Ob}{t:TypeId}{cs:List AV}(a:h'[i]? =some (.box t cs))(b:h'[id]? =some (.row ty e rows st)):(h'.set id o)[i]? =some (.box t cs):=by
 have:id≠i:=λq=>by rw[q,a] at b;cases b
 rw[zc this];exact a
set_option maxHeartbeats 1000000 in
theorem Wja(h:List Ob)(x:AV)(q:List Pt)(O:SlOf h x 3 (q.map ptC))(hl:q.length<1048576):
  ACalls Tryz.prog 56 [x] h λr h'=>r= .ag (yH λj=>ZZ q j)/\h'=h:=by
 refine zi Tryz.f56 [.cell 2 42] 35 rfl rfl rfl rfl rfl rfl (by decide) (⟨_,_,⟨rfl,rfl⟩,.refl⟩) λB=>?_
 simp only[go_sem]
 refine zI (by decide) (λm T h'=>∃k:Nat,k<=7/\Pre h h'/\h'[h.length]? =some (.box 42 (yH λj=>if j<k then ZZ q j else 0))/\T 0=x/\T 2= .ptr h.length 0/\T 7=i64 k/\m=7 - k) 7
  ⟨0,by omega,⟨_,rfl,zD rfl⟩,by rw[zM rfl];rfl,by simp only[go_sem],by simp only[go_sem],by(simp only[go_sem]<;>rfl),rfl⟩ ?_
 rintro m T h' ⟨k,hk,b,c,t0,t2,o,rfl⟩
 simp only[go_sem,o]
 refine ways (λe=>?_) (λe=>?_)
 ·have G:(k:Int)<7:=of_decide_eq_true e
  have t:k<7:=by omega
  have p:=(b.sl O).rows
  simp only[go_sem,t0,o,p,zb]
  refine zI (by decide) (λm T s=>∃n:Nat,n<=q.length/\Pre h s/\s[h.length]? =some (.box 42 (yH λj=>if j<k then ZZ q j else 0))/\OwnS h s 143 2 (T 4) ((yo (q.take n) k).map qJ)/\T 0=x/\T 2= .ptr h.length 0/\T 3=i64 k/\T 7=i64 k/\T 10=x/\T 11=i64 q.length/\T 12=i64 n/\m=q.length - n) q.length
   ⟨0,by omega,b,c,.inl ⟨by simp only[go_sem],rfl⟩,by simp only[go_sem,t0],by simp only[go_sem,t2],by(simp only[go_sem]<;>rfl),by simp only[go_sem,o],by simp only[go_sem,t0],by(simp only[go_sem]<;>rfl),by(simp only[go_sem]<;>rfl),rfl⟩ ?_
  clear t0 t2 o p c b
  rintro m T s ⟨n,Y,b,c,A,t0,t2,t3,o,t10,l,d,rfl⟩
  simp only[go_sem,l,d]
  refine ways (λH=>?_) (λH=>?_)
  ·have f:=dlt H
   have z:=b.sl O
   have D:=z.at (i:=n) (by simpa using f)
   have p:=z.rows
   have g:=zBb f
   have v:(n:Int)<q.length:=by omega
   have a:=wza f k
   obtain⟨y,W⟩:∃y,y=q[n]:=⟨_,rfl⟩
   rw[<-W] at g a
   have hA:List.length (ptC y)=3:=rfl
   have V:ptC y=[i64 y.from_,i64 y.to_,i64 y.kind]:=rfl
   rw[V] at g
   have fin:n+1<=q.length:=by omega
   simp only[go_sem,t3,t10,d,D,p,g,v,zb,Int.toNat_natCast,zh]
   refine ways (λw=>?_) (λw=>?_)
   ·rw[w] at a
    simp only[if_true] at a
    rcases A with⟨t4,K⟩|⟨id,st,P,t4,R⟩
    ·simp only[go_sem,t4,d]
     refine⟨q.length - (n+1),by omega,n+1,fin,b.app (zl rfl (zl rfl (zD rfl))),ze c,.inr ⟨_,_,by have:=b.len;omega,rfl,?_⟩,t0,t2,t3,o,t10,l,qf (by omega) rfl,rfl⟩
     rw[a,zw,K,zG rfl]
     rfl
    ·have J:(((yo (q.take n) k).map qJ).length+1)*17<=140737488355328:=by
      have:=q3a (q.take n) k
      rw[zJ] at this
      rw[zb];omega
     have I:∀M,(s++M)[id]? =some (.row 143 2 ((yo (q.take n) k).map qJ) st):=λM=>ze R
     simp only[go_sem,t4,d,I,J]
     refine⟨q.length - (n+1),by omega,n+1,fin,(b.app (zl rfl (zD rfl))).set P rfl,xq (h0:=h) (ze c) (I _),.inr ⟨id,st+1,P,rfl,?_⟩,t0,t2,t3,o,t10,l,qf (by omega) rfl,rfl⟩
     rw[a,zw]
     exact zm (I _)
   ·have w:(y.kind==(k:Int))=false:=by simpa using w
    rw[w] at a
    simp only[Bool.false_eq_true,if_false] at a
    simp only[go_sem,d]
    exact⟨q.length - (n+1),by omega,n+1,fin,b.app (zD rfl),ze c,by rw[a];exact A.app _,t0,t2,t3,o,t10,l,qf (by omega) rfl,rfl⟩
  ·have C:=j9 H
   have E:n=q.length:=by omega
   subst E
   rw[zP] at A
   have v:=q3a q k
   simp only[go_sem,t3]
   refine zg (yEa _ (T 4) (yo q k) A.rows (by omega)) ?_
   rintro _ Z ⟨rfl,S⟩
   rw[S]
   have u:=kHa (λj=>if j<k then ZZ q j else 0) t (ZZ q k)
   have F:(λj:Nat=>if j=k then ZZ q k else if j<k then ZZ q j else 0)=λj:Nat=>if j<k+1 then ZZ q j else 0:=by
    funext j
    by_cases Q:j=k
    ·subst Q;rw[if_pos rfl,if_pos (by omega)]
    ·rw[if_neg Q]
     by_cases s:j<k
     ·rw[if_pos s,if_pos (by omega)]
     ·rw[if_neg s,if_neg (by omega)]
   rw[F] at u
   rw[show jR (qz (yo q k))=ZZ q k from rfl]
   simp only[go_sem,t2,t3,o,c,u,G,t,Nat.mul_one,Nat.zero_add,Int.toNat_natCast,zh]
   exact⟨7 - (k+1),by omega,k+1,by omega,b.set (zo _) rfl,zm c,t0,qf (by omega) rfl,rfl⟩
 ·have C:¬ (k:Int)<7:=of_decide_eq_false e
  have N:k=7:=by omega
  subst N
  have c:h'[h.length]? =some (.box 42 (yH λj=>ZZ q j)):=c
  simp only[go_sem,t2,c,zBa,kIa]
  rw[qS c]
  obtain⟨L,U,X⟩:=b
  refine⟨.ag (yH λj=>ZZ q j),by simp only[go_sem,t2,c,zBa],.inr ⟨h,L,U,rfl,rfl,.refl,rfl,rfl⟩⟩
def Jm(n:Int):Int:=min (max n 0) 604800
theorem kJa(n:Int):xA Tryz.prog 135 [i64 n] (i64 (Jm n)):=λh=>by
 refine zi Tryz.f135 [.tmp 2] 6 rfl rfl rfl rfl rfl rfl (by decide) (⟨_,_,⟨rfl,rfl⟩,.refl⟩) λB=>?_
 simp only[go_sem]
 refine zn ?_<;>(simp only[go_sem,Jm,Q7,Q8]<;>try rfl)
def qka(n d:Int):Int:=(K8 n d).1
theorem YGa(n d:Int):xA Tryz.prog 136 [i64 n,i64 d] (i64 (qka n d)):=λh=>by
 refine zi Tryz.f136 [.tmp 4] 14 rfl rfl rfl rfl rfl rfl (by decide) (⟨_,_,⟨rfl,rfl⟩,.refl⟩) λB=>?_
 simp only[go_sem]
 refine zg (c70 n d _) ?_
 rintro _ a ⟨rfl,rfl⟩
 simp only[go_sem,XO]
 refine zn ?_<;>(simp only[go_sem,qka]<;>try rfl)
def Kt(r k:Int):Int:=wr (r*wr (k+1))
def ZQ(s:Setup)(r k:Int):Int:=if k>3 then wr (Kt r (k - 3)+wr (2*s.diff)) else Kt r k
theorem yRa(h:List Ob)(s:Setup)(a:SA)(k:SIn h s a)(r n:Int)(c:n<=3):
  ACalls Tryz.prog 137 [je s a,i64 r,i64 n] h λb h'=>b=i64 (Kt r n)/\h'=h:=by
 have q:decide (n>3)=false:=by rw[decide_eq_false_iff_not];omega
 refine zi Tryz.f137 [.tmp 6] 22 rfl rfl rfl rfl rfl rfl (by decide) (⟨_,_,⟨rfl,rfl⟩,.refl⟩) λB=>?_
 simp only[go_sem,k.ones,q]
 refine zn ?_<;>(simp only[go_sem,Kt]<;>try rfl)
theorem zCb(h:List Ob)(s:Setup)(a:SA)(k:SIn h s a)(r n:Int)(d:n<=6):
  ACalls Tryz.prog 137 [je s a,i64 r,i64 n] h λc h'=>c=i64 (ZQ s r n)/\h'=h:=by
 by_cases b:n>3
 ·have q:decide (n>3)=true:=decide_eq_true b
  have w:IntKind.wrap .i64 (n - 3)=n - 3:=qp (n:=n - 3) (by unfold Fit;omega)
  refine zi Tryz.f137 [.tmp 6] 22 rfl rfl rfl rfl rfl rfl (by decide) (⟨_,_,⟨rfl,rfl⟩,.refl⟩) λB=>?_
  simp only[go_sem,k.ones,q]
  refine zL rfl [] 0 [(1,0,[]),(2,0,[]),(3,0,[]),(5,0,[]),(0,0,[]),(6,0,[]),(7,0,[]),(4,0,[6]),(8,0,[]),(9,0,[])] rfl (by decide) (by decide) ?_
  simp only[go_sem,k.ones,w]
  refine zg (yRa _ s a (k.app _) r (n - 3) (by omega)) ?_
  rintro _ e ⟨rfl,rfl⟩
  simp only[go_sem,k.ones,w]
  refine zn ?_<;>(simp only[go_sem,ZQ,b]<;>try rfl)
 ·refine(yRa h s a k r n (by omega)).mono ?_
  rintro c h' ⟨rfl,rfl⟩
  exact⟨by unfold ZQ;rw[if_neg b],rfl⟩
def upI(n d:Int):Int × Int:=if d<=0 then(0,20) else if(kI n d).2>0 then(wr ((kI n d).1+1),0) else((kI n d).1,0)
theorem cUp(n d:Int):xA Tryz.prog 139 [i64 n,i64 d] (XO (upI n d)):=λh=>by
 refine zi Tryz.f139 [.tmp 4,.tmp 5] 21 rfl rfl rfl rfl rfl rfl (by decide) (⟨_,_,⟨rfl,rfl⟩,.refl⟩) λB=>?_
 simp only[go_sem]
 refine ways (λe=>?_) (λe=>?_)
 ·have a:d<=0:=of_decide_eq_true e
  simp only[go_sem]
  refine zn ?_<;>(simp only[go_sem,upI,a,XO]<;>try rfl)
 ·have a:¬ d<=0:=of_decide_eq_false e
  simp only[go_sem]
  refine zg (c97 n d (by omega) _) ?_
  rintro _ f ⟨rfl,rfl⟩
  simp only[go_sem,XO]
  refine ways (λc=>?_) (λc=>?_)
  ·have b:(kI n d).2>0:=of_decide_eq_true c
   simp only[go_sem]
   refine zn ?_<;>(simp only[go_sem,upI,a,b,XO]<;>try rfl)
  ·have b:¬ (kI n d).2>0:=of_decide_eq_false c
   simp only[go_sem]
   refine zn ?_<;>(simp only[go_sem,upI,a,b,XO]<;>try rfl)
def Ku:Int->List Int->Int × Int
 | a,[]=>(a,0)
 | a,x::r=>if(decide (x>0)==decide (wr (a+x)>a)) || x==0 then Ku (wr (a+x)) r else(0,10)
theorem kfb(h:List Ob)(x:AV)(l:List Int)(g:SlOf h x 1 (l.map qn))(t:l.length<1048576):
  ACalls Tryz.prog 138 [x] h λr h'=>r=XO (Ku 0 l)/\h'=h:=by
 refine zi Tryz.f138 [.tmp 2,.tmp 3] 30 rfl rfl rfl rfl rfl rfl (by decide) (⟨_,_,⟨rfl,rfl⟩,.refl⟩) λB=>?_
 simp only[go_sem]
 refine zia (by decide) ?_
 simp only[go_sem,g.rows,zb]
 refine zI (by decide) (λm T h'=>∃(i:Nat) (k:Int),i<=l.length/\h'=h/\Ku 0 l=Ku k (l.drop i)/\T 4=i64 k/\T 8=x/\T 9=i64 l.length/\T 10=i64 i/\m=l.length - i) l.length
  ⟨0,0,by omega,rfl,rfl,by(simp only[go_sem]<;>rfl),by simp only[go_sem],by(simp only[go_sem]<;>rfl),by(simp only[go_sem]<;>rfl),rfl⟩ ?_
 rintro m T h' ⟨i,k,hi,rfl,a,t4,t8,t9,t10,rfl⟩
 simp only[go_sem,t9,t10]
 refine ways (λe=>?_) (λe=>?_)
 ·have d:=dlt e
  have c:=XH d
  have p:=g.at (i:=i) (by rw[zb];exact d)
  have o:=g.rows
  have j:(i:Int)<l.length:=by omega
  rw[qU d,Ku] at a
  obtain⟨z,q⟩:∃z,z=l[i]:=⟨_,rfl⟩
  rw[<-q] at c a
  simp only[go_sem,t4,t8,t10,p,o,c,j,zb,Int.toNat_natCast,zh]
  obtain⟨b,f⟩:∃b:Bool,b=(decide (z>0)==decide (wr (k+z)>k)):=⟨_,rfl⟩
  rw[<-f] at a
  rw[show(decide (z>0)==decide (IntKind.i64.wrap (k+z)>k))=b from f.symm]
  cases b
  ·cases h0:z==0
   ·rw[h0] at a
    simp only[Bool.or_self,Bool.false_eq_true,if_false] at a
    simp only[go_sem,h0,qt, <-f]
    refine zn ?_<;>(simp only[go_sem,a,XO]<;>try rfl)
   ·rw[h0] at a
    simp only[Bool.or_true,if_true] at a
    simp only[go_sem,h0,qt, <-f,t10]
    exact⟨l.length - (i+1),by omega,i+1,_,by omega,a,rfl,t8,t9,qf (by omega) rfl,rfl⟩
  ·simp only[Bool.true_or,if_true] at a
   simp only[go_sem,qt, <-f,t10]
   exact⟨l.length - (i+1),by omega,i+1,_,by omega,a,rfl,t8,t9,qf (by omega) rfl,rfl⟩
 ·have s:=j9 e
  have n:i=l.length:=by omega
  subst n
  rw[List.drop_length,Ku] at a
  simp only[go_sem,t4]
  refine zn ?_<;>(simp only[go_sem,a,XO]<;>try rfl)
