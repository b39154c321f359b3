import Derived.Test.YtigdlmpjijhpaaaGreatBA
import Derived.Test.YtigdlmpjijhpaaaGreatB35
import Derived.Test.YtigdlmpjijhpaaaGreatB23
import Derived.Test.YtigdlmpjijhpaaaGreatB34
import Derived.Test.YtigdlmpjijhpaaaGreatB22
import Derived.Test.YtigdlmpjijhpaaaGreatB38
set_option linter.all false
namespace Go.Proofs.YtigdlmpjijhpaaaGreat.Ax
open Go Go.Proofs
set_option maxRecDepth 100000
theorem zea(h:List Ob)(id:Nat)(x y:AV)(a b:List Spn)(hi:h[id]? =some (.row 55 1 [[x],[y]] 0))(e:SlOf h x 2 (a.map qE))(f:SlOf h y 2 (b.map qE))(i:a.length<268435456)(g:b.length<268435456):
  ACalls Tryz.prog 188 [.tl id 0] h λr h'=>r=spv (a++b)/\h'=h:=by
 have d:Zi [(x,a),(y,b)]=a++b:=by simp[Zi]
 have q:=jT (by decide) (QU _) (Xda h (.tl id 0) [(x,a),(y,b)] ⟨by rw[qU,hi];rfl,λ_=>by rw[jI,hi];rfl⟩
  (λq c=>by rcases zE.1 c with rfl|c;exact e;rw[zN] at c;subst c;exact f) (by show 2<1048576;decide) (by rw[d,ze];omega))
 rw[d] at q
 exact q
theorem Xpa(h:List Ob)(x:AV)(l:List Seg)(a:SlOf h x 5 (l.map kG))(b:l.length<1048576):
  ACalls Tryz.prog 23 [x] h λr h'=>r=spv (ja l)/\h'=h:=jT (by decide) (QU _) (c31 h x l a b)
theorem qVb(h:List Ob)(x:AV)(l:List Seg)(k:Int)(a:SlOf h x 5 (l.map kG))(b:l.length<1048576):
  ACalls Tryz.prog 243 [x,i64 k] h λr h'=>r=spv (wC l k)/\h'=h:=jT (by decide) (QU _) (c32 h x l k a b)
theorem zfa(l:List Spn)(n:Int):(X7 l n).length<=2*l.length+1:=by
 unfold X7
 split
 ·simp
 ·have d:=xm l (qJ l (jK (qw l) - min n 32054400))
  have c:=qh l
  have a:=qh (qJ l (jK (qw l) - min n 32054400))
  have b:(qJ l (jK (qw l) - min n 32054400)).length<=(qw l).length:=xK _ _
  omega
def Z2(s:Setup)(c b:List Spn):List Spn:=if s.autoAfter<=jK (qw c)/\jK (qw b)<s.autoBreak then X7 (jz c b) (s.autoBreak - jK (qw b)) else []
def wO(s:Setup)(c b:List Spn):List Spn:=qw (jz b (qJ b s.paidBreak)++Z2 s c b)
theorem Kc(s:Setup)(c b:List Spn):(wO s c b).length<=2*c.length+4*b.length+4:=by
 have j:=xm b (qJ b s.paidBreak)
 have a:=qh (qJ b s.paidBreak)
 have e:=qh b
 have d:(qJ b s.paidBreak).length<=(qw b).length:=xK _ _
 have f:(Z2 s c b).length<=2*(jz c b).length+1:=by
  unfold Z2
  split
  ·exact zfa _ _
  ·simp
 have i:=xm c b
 have g:=qh c
 have h:=qh (jz b (qJ b s.paidBreak)++Z2 s c b)
 rw[ze] at h
 unfold wO
 omega
theorem Vwa(h:List Ob)(s:Setup)(a:SA)(k:SIn h s a)(t:Times s)(x y:AV)(c b:List Spn)(u:SlOf h x 2 (c.map qE))(i:SlOf h y 2 (b.map qE))(J:c.length<65536)(L:b.length<65536):
  ACalls Tryz.prog 242 [je s a,x,y] h λr h'=>r=spv (wO s c b)/\h'=h:=by
 refine zj Tryz.f242 [.tmp 6] 41 rfl rfl rfl rfl rfl rfl (by decide) (⟨_,_,⟨rfl,rfl⟩,.refl⟩) λB=>?_
 simp only[go_sem,k.ones]
 have D:∀M,(h++[Ob.box 30 (qd s a)]++M)[h.length]? =some (.box 30 (qd s a)):=λM=>by rw[zp,zM rfl];rfl
 refine zg (jOa _ y b _ (i.app _) (by omega) (by have:=t.paidBreak;unfold Fit;omega)) ?_
 rintro _ e ⟨rfl,rfl⟩
 simp only[go_sem]
 refine zg (Ka _ y _ b _ (i.app _) (jW _) (by omega) (by have:=xK (qw b) s.paidBreak;have:=qh b;unfold qJ;omega)) ?_
 rintro _ e ⟨rfl,rfl⟩
 simp only[go_sem]
 refine zg (ysa _ y b (i.app _) (by omega)) ?_
 rintro _ e ⟨rfl,rfl⟩
 simp only[go_sem]
 refine zV rfl [] 0 [(0,0,[]),(2,0,[]),(3,0,[]),(1,0,[3]),(4,0,[]),(5,0,[]),(6,0,[]),(7,0,[]),(8,0,[]),(9,0,[]),(10,0,[])] rfl (by decide) (by decide) ?_
 simp only[go_sem]
 refine zg (ysa _ x c (u.app _) (by omega)) ?_
 rintro _ e ⟨rfl,rfl⟩
 have K:=xm b (qJ b s.paidBreak)
 have m:=xK (qw b) s.paidBreak
 have v:=qh (qJ b s.paidBreak)
 have G:=qh b
 have H:(qJ b s.paidBreak).length<=(qw b).length:=m
 cases g:decide (jK (qw c)≥s.autoAfter)
 ·have d:Z2 s c b=[]:=by unfold Z2;rw[if_neg];exact λq=>(of_decide_eq_false g) q.1
  have f:wO s c b=qw (jz b (qJ b s.paidBreak)):=by unfold wO;rw[d,zF]
  simp only[go_sem,g,qD]
  refine zg (JL _ _ (jz b (qJ b s.paidBreak)) (jW _) (by omega)) ?_
  rintro _ e ⟨rfl,rfl⟩
  rw[<-f]
  simp only[go_sem]
  exact⟨_,by simp only[go_sem],.inr ⟨h,_,rfl,rfl,JI _,.refl,rfl,rfl⟩⟩
 ·have p:s.autoAfter<=jK (qw c):=of_decide_eq_true g
  cases j:decide (jK (qw b)<s.autoBreak)
  ·have d:Z2 s c b=[]:=by unfold Z2;rw[if_neg];exact λq=>(of_decide_eq_false j) q.2
   have f:wO s c b=qw (jz b (qJ b s.paidBreak)):=by unfold wO;rw[d,zF]
   simp only[go_sem,g,j,qD]
   refine zg (JL _ _ (jz b (qJ b s.paidBreak)) (jW _) (by omega)) ?_
   rintro _ e ⟨rfl,rfl⟩
   rw[<-f]
   simp only[go_sem]
   exact⟨_,by simp only[go_sem],.inr ⟨h,_,rfl,rfl,JI _,.refl,rfl,rfl⟩⟩
  ·have o:jK (qw b)<s.autoBreak:=of_decide_eq_true j
   have d:Z2 s c b=X7 (jz c b) (s.autoBreak - jK (qw b)):=by unfold Z2;rw[if_pos ⟨p,o⟩]
   simp only[go_sem,g,j,qD]
   refine zV rfl [.res] 1 [(0,0,[]),(1,0,[]),(2,0,[]),(4,0,[]),(6,0,[]),(5,0,[]),(7,0,[]),(3,0,[5]),(8,0,[]),(9,0,[]),(10,0,[]),(11,0,[])] rfl (by decide) (by decide) ?_
   simp only[go_sem]
   refine zg (Ka _ x y c b (u.app _) (i.app _) (by omega) (by omega)) ?_
   rintro _ e ⟨rfl,rfl⟩
   have E:=xm c b
   have z:=qh c
   have w:=YU (l:=qw b) (λs C=>vk s C)
   have F:=t.autoBreak
   have I:IntKind.wrap .i64 (s.autoBreak - jK (qw b))=s.autoBreak - jK (qw b):=qp (n:=s.autoBreak - jK (qw b)) (by unfold Fit;omega)
   simp only[go_sem,I]
   refine zg (qRb _ _ (jz c b) (s.autoBreak - jK (qw b)) (jW _) (by omega) (by unfold Fit;omega)) ?_
   rintro _ e ⟨rfl,rfl⟩
   rw[<-d]
   have A:(Z2 s c b).length<1048576:=by
    have:=zfa (jz c b) (s.autoBreak - jK (qw b))
    rw[d];omega
   simp only[go_sem]
   refine zg (zea _ (h.length+1) _ _ (jz b (qJ b s.paidBreak)) (Z2 s c b) (by rw[zK (k:=1) rfl];rfl) (jW _) (jW _) (by omega) (by omega)) ?_
   rintro _ e ⟨rfl,rfl⟩
   simp only[go_sem]
   refine zg (JL _ _ (jz b (qJ b s.paidBreak)++Z2 s c b) (jW _) (by rw[ze];omega)) ?_
   rintro _ e ⟨rfl,rfl⟩
   rw[show qw (jz b (qJ b s.paidBreak)++Z2 s c b)=wO s c b from rfl]
   simp only[go_sem]
   exact⟨_,by simp only[go_sem],.inr ⟨h,_,rfl,rfl,JI _,.refl,rfl,rfl⟩⟩
theorem yDa{n:Nat}(a b:List Spn):(AV.tup [spv a,spv b]).lt n=true:=by
 simp only[AV.lt,qz,JI,Bool.and_self]
theorem Vxa{n:Nat}(a b c:List Spn):(AV.tup [spv a,spv b,spv c]).lt n=true:=by
 simp only[AV.lt,qz,JI,Bool.and_self]
def vF(s:Setup)(l:List Seg)(d:Int):List Spn:=wO s (xz (ja l) d) (xz (wC l 3) d)
def xX(s:Setup)(l:List Seg)(d:Int):List Spn:=jz (xz (ja l) d) (vF s l d)
theorem Zp(l:List Seg):(ja l).length<=l.length:=by
 have:=qh (l.map spS)
 rw[zb] at this
 exact this
theorem KX(l:List Seg)(k:Int):(wC l k).length<=l.length:=by
 have a:=qh ((l.filter λg=>g.kind==k).map spS)
 have b:=qo (λg:Seg=>g.kind==k) l
 rw[zb] at a
 unfold wC;omega
theorem Qp(l:List Spn)(d:Int):(xz l d).length<=l.length+1:=by
 have b:=Qm l d 86400
 have a:=qh l
 unfold xz;omega
theorem Xl(s:Setup)(l:List Seg)(d:Int):(vF s l d).length<=6*l.length+10:=by
 have b:=Kc s (xz (ja l) d) (xz (wC l 3) d)
 have a:=Qp (ja l) d
 have e:=Qp (wC l 3) d
 have c:=Zp l
 have f:=KX l 3
 unfold vF;omega
theorem Wr(s:Setup)(l:List Seg)(d:Int):(xX s l d).length<=7*l.length+12:=by
 have c:=xm (xz (ja l) d) (vF s l d)
 have b:=Qp (ja l) d
 have f:=Xl s l d
 have e:=Zp l
 have g:=qh (xz (ja l) d)
 have a:=qh (vF s l d)
 unfold xX;omega
theorem Qfa(h:List Ob)(s:Setup)(a:SA)(k:SIn h s a)(f:SFit s)(c:qv s=true)(x:AV)(l:List Seg)(d:Int)(e:SlOf h x 5 (l.map kG))(n:l.length<32768):
  ACalls Tryz.prog 184 [je s a,x,i64 d] h λr h'=>r= .tup [spv (xX s l d),spv (vF s l d)]/\h'=h:=by
 have b:=Zp l
 have g:=KX l 3
 have j:=Qp (ja l) d
 have i:=Qp (wC l 3) d
 have m:=Xl s l d
 refine zj Tryz.f184 [.tmp 6,.tmp 7] 28 rfl rfl rfl rfl rfl rfl (by decide) (⟨_,_,⟨rfl,rfl⟩,.refl⟩) λB=>?_
 simp only[go_sem,k.ones]
 refine zg (c16 _ s a (k.app _) f) ?_
 rintro _ b ⟨rfl,rfl⟩
 simp only[go_sem,c,qD,Bool.not_true]
 refine zg (Xpa _ x l (e.app _) (by omega)) ?_
 rintro _ b ⟨rfl,rfl⟩
 simp only[go_sem]
 refine zg (wga _ _ (ja l) d (jW _) (by omega)) ?_
 rintro _ b ⟨rfl,rfl⟩
 simp only[go_sem]
 refine zV rfl [] 0 [(1,0,[]),(2,0,[]),(4,0,[]),(0,0,[]),(3,0,[0]),(5,0,[0]),(6,0,[]),(7,0,[])] rfl (by decide) (by decide) ?_
 simp only[go_sem,k.ones]
 refine zg (qVb _ x l 3 (e.app _) (by omega)) ?_
 rintro _ b ⟨rfl,rfl⟩
 simp only[go_sem]
 refine zg (wga _ _ (wC l 3) d (jW _) (by omega)) ?_
 rintro _ b ⟨rfl,rfl⟩
 simp only[go_sem]
 refine zg (Vwa _ s a (k.app _) (VJ c) _ _ (xz (ja l) d) (xz (wC l 3) d) (jW _) (jW _) (by omega) (by omega)) ?_
 rintro _ b ⟨rfl,rfl⟩
 rw[show wO s (xz (ja l) d) (xz (wC l 3) d)=vF s l d from rfl]
 simp only[go_sem]
 refine zg (Ka _ _ _ (xz (ja l) d) (vF s l d) (jW _) (jW _) (by omega) (by omega)) ?_
 rintro _ b ⟨rfl,rfl⟩
 rw[show jz (xz (ja l) d) (vF s l d)=xX s l d from rfl]
 simp only[go_sem]
 exact⟨_,by simp only[go_sem],.inr ⟨h,_,rfl,rfl,yDa _ _,.refl,rfl,rfl⟩⟩
structure L2 (F:List (Nat × Ob)) (h0 h:List Ob) (i j bty ty e:Nat) (r1 r2:List (List AV)):Prop where
 pre:Pre h0 h
 li:h0.length<=i
 lj:h0.length<=j
 ne:i≠j
 kept:∀z∈F,z.1≠i/\z.1≠j/\(∃t cs,z.2= .box t cs)/\h[z.1]? =some z.2
 at_:∃x y,h[i]? =some (.box bty [x])/\h[j]? =some (.box bty [y])/\OwnS h0 h ty e x r1/\OwnS h0 h ty e y r2/\∀a s b t,x= .tl a s->y= .tl b t->a≠b
def BoxK(i j:Nat)(h m:List Ob):Prop:=∀(z:Nat) (t:TypeId) (cs:List AV),z≠i->z≠j->h[z]? =some (.box t cs)->m[z]? =some (.box t cs)
theorem BoxK.app{i j:Nat}{h M:List Ob}:BoxK i j h (h++M):=λz t cs _ _ q=>zf q
theorem BoxK.trans{i j:Nat}{a b c:List Ob}(h:BoxK i j a b)(k:BoxK i j b c):BoxK i j a c:=λz t cs hi d q=>k z t cs hi d (h z t cs hi d q)
theorem BoxK.setR{i j id:Nat}{a:List Ob}{o:Ob}{ty e:Nat}{rows:List (List AV)}{st:Nat}(hi:a[id]? =some (.row ty e rows st)):BoxK i j a (a.set id o):=λz t cs _ _ q=>by
 have:id≠z:=λe=>by rw[e,q] at hi;cases hi
 rw[zc this];exact q
theorem OwnS.setB{h0 h:List Ob}{ty e:Nat}{x:AV}{rows:List (List AV)}(k:OwnS h0 h ty e x rows){i:Nat}{o:Ob}{t:TypeId}{cs:List AV}(hi:h[i]? =some (.box t cs)):OwnS h0 (h.set i o) ty e x rows:=by
 rcases k with⟨rfl,c⟩|⟨id,st,b,rfl,a⟩
 ·exact .inl ⟨rfl,c⟩
 ·refine .inr ⟨id,st,b,rfl,?_⟩
  have:i≠id:=λe=>by rw[e,a] at hi;cases hi
  rw[zc this];exact a
theorem L2.fin{F:List (Nat × Ob)}{h0 h m:List Ob}{i j bty ty e:Nat}{G C d f:List (List AV)}(k:L2 F h0 h i j bty ty e G C)(A:Pre h0 m)(E:BoxK i j h m){x' y':AV}(hi:∃x,m[i]? =some (.box bty [x]))(B:∃x,m[j]? =some (.box bty [x]))
  (D:OwnS h0 m ty e x' d) (w:OwnS h0 m ty e y' f) (o:∀a s b t,x'= .tl a s->y'= .tl b t->a≠b):L2 F h0 ((m.set i (.box bty [x'])).set j (.box bty [y'])) i j bty ty e d f:=by
 obtain⟨x,n⟩:=hi
 obtain⟨y,v⟩:=B
 have g:(m.set i (.box bty [x']))[i]? =some (.box bty [x']):=zo (zd.1 n).1
 have c:(m.set i (.box bty [x']))[j]? =some (.box bty [y]):=by rw[zc k.ne];exact v
 refine⟨(A.set k.li rfl).set k.lj rfl,k.li,k.lj,k.ne,λz u=>?_,x',y',?_,zo (zd.1 c).1,(D.setB n).setB c,(w.setB n).setB c,o⟩
 ·obtain⟨p,l,⟨t,cs,r⟩,q⟩:=k.kept z u
  refine⟨p,l,⟨t,cs,r⟩,?_⟩
  rw[r] at q⊢
  rw[zc (Ne.symm l),zc (Ne.symm p)]
  exact E _ _ _ p l q
 ·rw[zc k.ne.symm];exact g
theorem L2.any{F:List (Nat × Ob)}{h0 h:List Ob}{i j bty ty e:Nat}{p l:List (List AV)}(k:L2 F h0 h i j bty ty e p l)(d c:List (List AV)):∃h',L2 F h0 h' i j bty ty e d c/\ResK h h':=by
 obtain⟨x,y,n,o,_⟩:=k.at_
 have r:=k.pre.len
 have q:=k.fin (m:=h++[.row ty e d 0,.row ty e c 0]) (k.pre.app (zr rfl (zG rfl))) .app (x':= .tl h.length 0) (y':= .tl (h.length+1) 0) ⟨x,zf n⟩ ⟨y,zf o⟩
  (.inr ⟨_,_,r,rfl,by rw[zM rfl];rfl⟩) (.inr ⟨_,_,by omega,rfl,by rw[zK (k:=1) rfl];rfl⟩) (λa s b t g f=>by injection g with g;injection f with f;omega)
 exact⟨_,q,k.pre.resK q.pre⟩
theorem YTa(F:List (Nat × Ob))(h0 h:List Ob)(i j u v:Nat)(s:Setup)(a:SA)(x:AV)(l:List Seg)(p q:List Spn)(d:Int)(k:L2 F h0 h i j 55 143 2 (p.map qE) (q.map qE))(ks:SIn h s a)(f:SFit s)(U:qv s=true)
  (hu:(u,Ob.box 30 (qd s a))∈F) (hv:(v,Ob.box 51 [x])∈F) (hx:SlOf h x 5 (l.map kG)) (P:l.length<32768) (hp:p.length<4294967296) (hq:q.length<4294967296):
  ACalls Tryz.prog 183 [i64 d,.ptr u 0,.ptr v 0,.ptr i 0,.ptr j 0] h λr h'=>r= .tup []/\L2 F h0 h' i j 55 143 2 ((p++xX s l d).map qE) ((q++vF s l d).map qE):=by
 have hex:∃r h',(r=AV.tup []/\L2 F h0 h' i j 55 143 2 ((p++xX s l d).map qE) ((q++vF s l d).map qE))/\ResK h h':=by
  obtain⟨h',q1,q2⟩:=k.any ((p++xX s l d).map qE) ((q++vF s l d).map qE)
  exact⟨_,h',⟨rfl,q1⟩,q2⟩
 have W:=(k.kept _ hu).2.2.2
 have V:=(k.kept _ hv).2.2.2
 obtain⟨y,z,m,g,oy,oz,X⟩:=k.at_
 have Z:=hx.cells
 have ρ:=Wr s l d
 have κ:=Xl s l d
 have D:=jQa (xX s l d)
 have E:=jQa (vF s l d)
 have c1:(p.length+(xX s l d).length)*17<=140737488355328:=by omega
 have c2:(q.length+(vF s l d).length)*17<=140737488355328:=by omega
 have c3:(xX s l d).length*17<=140737488355328:=by omega
 have c4:(vF s l d).length*17<=140737488355328:=by omega
 refine zj Tryz.f183 [] 21 rfl rfl rfl rfl rfl rfl (by decide) (hex) λB=>?_
 simp only[go_sem,W,V,ks.ones,Z]
 refine zg (Qfa h s a ks f U x l d hx P) ?_
 rintro _ C ⟨rfl,rfl⟩
 simp only[go_sem]
 refine zV rfl [] 0 [(1,0,[]),(4,0,[]),(0,0,[]),(3,0,[]),(2,0,[3]),(5,0,[]),(6,0,[]),(7,0,[])] rfl (by decide) (by decide) ?_
 have e:∀M,(C++M)[i]? =some (.box 55 [y]):=λM=>zf m
 have c:∀M,(C++M)[j]? =some (.box 55 [z]):=λM=>zf g
 have ο:=oy.rows.cells
 have μ:=oz.rows.cells
 have Q:i≠j:=k.ne
 have G:j≠i:=k.ne.symm
 have P:=k.pre.len
 have hi:i<C.length:=(zd.1 m).1
 have hj:j<C.length:=(zd.1 g).1
 rcases oy with⟨rfl,S⟩|⟨ia,sa,R,rfl,A⟩
 ·have T:p=[]:=by simpa using S
  subst T
  rcases oz with⟨rfl,J⟩|⟨ib,Y,v1,rfl,v3⟩
  ·have I:q=[]:=by simpa using J
   subst I
   simp only[go_sem,m,g,e,c,D,E,c3,c4,zb,zc,Q,G,ne_eq,not_false_eq_true]
   exact⟨_,rfl,.inl ⟨rfl,k.fin (k.pre.app (zr rfl (zG rfl))) .app ⟨_,e _⟩ ⟨_,c _⟩ (.inr ⟨_,_,P,rfl,by rw[zM rfl];rfl⟩) (.inr ⟨_,_,by omega,rfl,by rw[zK (k:=1) rfl];rfl⟩) (λa s b t n w=>by injection n with n;injection w with w;omega)⟩⟩
  ·have H:∀M,(C++M)[ib]? =some (.row 143 2 (q.map qE) Y):=λM=>zf v3
   have n1:ib≠i:=λq=>by rw[q,m] at v3;cases v3
   have n2:ib≠j:=λq=>by rw[q,g] at v3;cases v3
   have β:=(zd.1 v3).1
   simp only[go_sem,m,g,e,c,D,E,c2,c3,H,v3,zb,zc,Q,G,n1,n2,ne_eq,not_false_eq_true]
   refine⟨_,rfl,.inl ⟨rfl,k.fin ((k.pre.app (zG rfl)).set v1 rfl) (BoxK.app.trans (.setR (H _))) ⟨_,(zc n1).trans (e _)⟩ ⟨_,(zc n2).trans (c _)⟩ (.inr ⟨_,_,P,rfl,?_⟩) (.inr ⟨_,_,v1,rfl,?_⟩) (λa s b t n w=>by injection n with n;injection w with w;omega)⟩⟩
   ·rw[zc (by omega),zM rfl];rfl
   ·rw[zo (by rw[ze];omega), <-zy]
 ·have N:∀M,(C++M)[ia]? =some (.row 143 2 (p.map qE) sa):=λM=>zf A
  have n3:ia≠i:=λq=>by rw[q,m] at A;cases A
  have n4:ia≠j:=λq=>by rw[q,g] at A;cases A
  have K:=(zd.1 A).1
  rcases oz with⟨rfl,J⟩|⟨ib,Y,v1,rfl,v3⟩
  ·have I:q=[]:=by simpa using J
   subst I
   have L:∀o M,(C.set ia o++M)[i]? =some (.box 55 [.tl ia sa]):=λo M=>zf ((zc n3).trans m)
   have O:∀o M,(C.set ia o++M)[j]? =some (.box 55 [.v (.slice none 0 0)]):=λo M=>zf ((zc n4).trans g)
   simp only[go_sem,m,g,e,c,L,O,D,E,c1,c4,N,A,zb,zc,Q,G,n3,n4,ne_eq,not_false_eq_true]
   refine⟨_,rfl,.inl ⟨rfl,k.fin ((k.pre.set R rfl).app (zG rfl)) (BoxK.trans (.setR A) .app) ⟨_,L _ _⟩ ⟨_,O _ _⟩ (.inr ⟨_,_,R,rfl,?_⟩) (.inr ⟨_,_,P,rfl,?_⟩) (λa s b t n w=>by injection n with n;injection w with w;omega)⟩⟩
   ·refine zf ?_
    rw[zo K, <-zy]
   ·rw[zM (by rw[zz])];rfl
  ·have H:∀M,(C++M)[ib]? =some (.row 143 2 (q.map qE) Y):=λM=>zf v3
   have n1:ib≠i:=λq=>by rw[q,m] at v3;cases v3
   have n2:ib≠j:=λq=>by rw[q,g] at v3;cases v3
   have n5:ia≠ib:=X _ _ _ _ rfl rfl
   have β:=(zd.1 v3).1
   simp only[go_sem,m,g,e,c,D,E,c1,c2,N,H,A,v3,zb,zc,Q,G,n1,n2,n3,n4,n5,ne_eq,not_false_eq_true]
   refine⟨_,rfl,.inl ⟨rfl,k.fin ((k.pre.set R rfl).set v1 rfl) (BoxK.trans (.setR A) (.setR ((zc n5).trans v3))) ⟨_,(zc n1).trans ((zc n3).trans m)⟩ ⟨_,(zc n2).trans ((zc n4).trans g)⟩ (.inr ⟨_,_,R,rfl,?_⟩) (.inr ⟨_,_,v1,rfl,?_⟩) (λa s b t n w=>by injection n with n;injection w with w;omega)⟩⟩
   ·rw[zc n5.symm,zo K, <-zy]
   ·rw[zo (by rw[zz];omega), <-zy]
def ZK(s:Setup)(l:List Seg):List Spn:=qw ((qR (ja l)).flatMap (xX s l))
def wP(s:Setup)(l:List Seg):List Spn:=qw ((qR (ja l)).flatMap (vF s l))
theorem zga{f:Int->List Spn}{m:Nat}(a:∀d,(f d).length<=m):∀l:List Int,(l.flatMap f).length<=m*l.length
 | []=>by simp
 | d::l=>by
   have c:=a d
   have b:=zga a l
   rw[List.flatMap_cons,ze,List.length_cons,Nat.mul_succ];omega
theorem Xm{f:Int->List Spn}{l:List Int}{n:Nat}(h:n<l.length):(l.take (n+1)).flatMap f=(l.take n).flatMap f++f l[n]:=by
 rw[<-zI h,List.flatMap_append];simp
theorem qWb(h:List Ob)(s:Setup)(a:SA)(k:SIn h s a)(f:SFit s)(N:qv s=true)(x:AV)(l:List Seg)(I:SlOf h x 5 (l.map kG))(hl:l.length<32768):
  ACalls Tryz.prog 114 [je s a,x] h λr h'=>r= .tup [spv (ZK s l),spv (wP s l)]/\h'=h:=by
 have R:=I.cells
 have O:=I.one
 have δ:=Zp l
 refine zj Tryz.f114 [.cell 4 55,.cell 5 55] 29 rfl rfl rfl rfl rfl rfl (by decide) (⟨_,_,⟨rfl,rfl⟩,.refl⟩) λB=>?_
 simp only[go_sem,k.ones,O,R]
 refine zg (Xpa _ x l (I.app _) (by omega)) ?_
 rintro _ h1 ⟨rfl,rfl⟩
 simp only[go_sem]
 refine zg (J3a _ _ (ja l) (jW _) (by omega)) ?_
 rintro _ h1 ⟨rfl,rfl⟩
 have U:=yM (ja l)
 have g:ZK s l=qw (((qR (ja l)).take (qR (ja l)).length).flatMap (xX s l)):=by rw[zZ];rfl
 have d:wP s l=qw (((qR (ja l)).take (qR (ja l)).length).flatMap (vF s l)):=by rw[zZ];rfl
 obtain⟨v,hv⟩:∃v,v=qR (ja l):=⟨_,rfl⟩
 rw[<-hv] at U g d⊢
 simp only[go_sem,zb]
 obtain⟨F,S⟩:∃F,F=[(h.length,Ob.box 30 (qd s a)),(h.length+1,Ob.box 51 [x])]:=⟨_,rfl⟩
 have hu:(h.length,Ob.box 30 (qd s a))∈F:=by rw[S];simp
 have hw:(h.length+1,Ob.box 51 [x])∈F:=by rw[S];simp
 obtain⟨G,V⟩:∃G,G=AV.fn (.func 183) [] [.ptr h.length 0,.ptr (h.length+1) 0,.ptr (h.length+2) 0,.ptr (h.length+3) 0]:=⟨_,rfl⟩
 rw[<-V]
 refine zP (by decide) (λm T h'=>∃n:Nat,n<=v.length/\L2 F h h' (h.length+2) (h.length+3) 55 143 2 (((v.take n).flatMap (xX s l)).map qE) (((v.take n).flatMap (vF s l)).map qE)/\T 4= .ptr (h.length+2) 0/\T 5= .ptr (h.length+3) 0/\T 6= .sl 1 (v.map qB)/\T 7=G/\T 14=i64 v.length/\T 15=i64 n/\m=v.length - n) v.length
  ⟨0,by omega,⟨⟨_,rfl,zr rfl (zr rfl (zr rfl (zG rfl)))⟩,by omega,by omega,by omega,(λz c=>by
   rw[S] at c
   rcases zE.1 c with rfl|c
   ·exact⟨by show h.length≠h.length+2;omega,by show h.length≠h.length+3;omega,⟨_,_,rfl⟩,by rw[zM rfl];rfl⟩
   ·rw[zN] at c
    subst c
    exact⟨by show h.length+1≠h.length+2;omega,by show h.length+1≠h.length+3;omega,⟨_,_,rfl⟩,by rw[zK (k:=1) rfl];rfl⟩),
   _,_,by rw[zK (k:=2) rfl];rfl,by rw[zK (k:=3) rfl];rfl,.inl ⟨rfl,rfl⟩,.inl ⟨rfl,rfl⟩,λa s b t H=>by cases H⟩,by simp only[go_sem],by simp only[go_sem],by simp only[go_sem],by simp only[go_sem],by(simp only[go_sem]<;>rfl),by(simp only[go_sem]<;>rfl),rfl⟩ ?_
 rintro m T h' ⟨n,α,o,t4,t5,t6,X,A,p,rfl⟩
 have q:=zga (Wr s l) (v.take n)
 have w:=zga (Xl s l) (v.take n)
 rw[qa] at q w
 have J:(7*l.length+12)*min n v.length<=(7*32768+12)*371:=Nat.mul_le_mul (by omega) (by omega)
 have D:(6*l.length+10)*min n v.length<=(6*32768+10)*371:=Nat.mul_le_mul (by omega) (by omega)
 simp only[go_sem,A,p]
 refine ways (λe=>?_) (λe=>?_)
 ·have j:=dlt e
  have i:=Xk j
  have K:(n:Int)<v.length:=by omega
  have H:=Xm (f:=xX s l) j
  have Z:=Xm (f:=vF s l) j
  obtain⟨z,c⟩:∃z,z=v[n]:=⟨_,rfl⟩
  rw[<-c] at i H Z
  simp only[go_sem,t6,X,p,i,K,V,zb,Int.toNat_natCast,zh]
  refine zg (YTa F h h' (h.length+2) (h.length+3) h.length (h.length+1) s a x l _ _ z o (o.pre.sin k) f N hu hw (o.pre.sl I) hl (by omega) (by omega)) ?_
  rintro _ h6 ⟨rfl,k6⟩
  rw[<-H, <-Z] at k6
  simp only[go_sem,p]
  exact⟨v.length - (n+1),by omega,n+1,by omega,k6,t4,t5,t6,by rw[X,V],A,qm (by omega) rfl,rfl⟩
 ·have μ:=xb e
  have Q:n=v.length:=by omega
  subst Q
  obtain⟨y,z,E,c,oy,oz,ε⟩:=o.at_
  have u:=o.pre
  simp only[go_sem]
  refine zV rfl [] 0 [(0,0,[]),(2,0,[]),(1,0,[2]),(3,0,[]),(4,0,[]),(5,0,[])] rfl (by decide) (by decide) ?_
  have ο:∀M,(h'++M)[h.length+2]? =some (.box 55 [y]):=λM=>zf E
  have ν:∀M,(h'++M)[h.length+3]? =some (.box 55 [z]):=λM=>zf c
  simp only[go_sem,t4,t5,E,c]
  refine zg (JL _ y _ oy.rows (by omega)) ?_
  rintro _ h' ⟨rfl,rfl⟩
  rw[<-g]
  simp only[go_sem,c,t5]
  refine zg (JL _ z _ oz.rows (by omega)) ?_
  rintro _ h' ⟨rfl,rfl⟩
  rw[<-d]
  have ne:h.length+2≠h.length+3:=by omega
  have C:h.length+3≠h.length+2:=by omega
  have Y:=(zd.1 E).1
  have W:=(zd.1 c).1
  simp only[go_sem,t4,t5,E,c,zc,ne,C,ne_eq,not_false_eq_true]
  have P:Pre h ((h'.set (h.length+2) (.box 55 [spv (ZK s l)])).set (h.length+3) (.box 55 [spv (wP s l)])):=(u.set o.li rfl).set o.lj rfl
  obtain⟨L,hL,hN⟩:=P
  refine⟨.tup [spv (ZK s l),spv (wP s l)],?_,.inr ⟨h,L,hL,rfl,yDa _ _,.refl,rfl,rfl⟩⟩
  have q1:((h'.set (h.length+2) (.box 55 [spv (ZK s l)])).set (h.length+3) (.box 55 [spv (wP s l)]))[h.length+2]? =some (.box 55 [spv (ZK s l)]):=by
   rw[zc C,zo (by omega)]
  have q2:((h'.set (h.length+2) (.box 55 [spv (ZK s l)])).set (h.length+3) (.box 55 [spv (wP s l)]))[h.length+3]? =some (.box 55 [spv (wP s l)]):=by
   rw[zo (by rw[zz];omega)]
  simp only[go_sem,t4,t5,q1,q2]
end Go.Proofs.YtigdlmpjijhpaaaGreat.Ax
namespace Go.Proofs.YtigdlmpjijhpaaaGreat.Ax
open Go
theorem VK{C:List Spn}{n size:Int}(m:0<size){s:Spn}(f:s∈vO C n size):((∃p∈qw C,s.from_=p.from_)∨s.from_=n*size)/\n*size<=s.from_/\s.from_<(n+1)*size:=by
 unfold vO at f
 split at f
 ·cases f
 ·rename_i A
  have g:0<=n:=by omega
  have r:0<=n*size:=Int.mul_nonneg g (by omega)
  have i:=vk s f
  have v:=(KT (a:=C) (b:=[⟨n*size,(n+1)*size⟩]) (t:=s.from_)).1 ⟨s,f,by omega,i.2.1⟩
  obtain⟨_,_,y,c,j,h⟩:=v
  rw[zN] at c
  subst c
  refine⟨?_,j,h⟩
  obtain⟨y,c,e⟩:=X4 f
  unfold xf at c
  obtain⟨z,d,rfl⟩:=zw.1 (qq.1 c).1
  obtain⟨p,l,d⟩:=List.mem_flatMap.1 d
  obtain⟨q,k,rfl⟩:=zw.1 d
  have x:=(vk p l).1
  have w:=(vk q k).1
  obtain⟨y,c,o⟩:=X4 k
  unfold xf at c
  obtain⟨z,d,rfl⟩:=zw.1 (qq.1 c).1
  rw[zN] at d
  subst d
  simp only[kx] at o
  simp only[kx,ZC] at e
  by_cases u:p.from_<=q.from_
  ·right;omega
  ·left;exact⟨p,l,by omega⟩
theorem Qga(C:List Spn)(size:Int)(a:0<size)(L:List Int)(f:L.Nodup):(L.flatMap λd=>vO C d size).length<=(qw C).length+L.length:=by
 have key:∀L:List Int,L.Nodup->((L.flatMap λd=>vO C d size).map (·.from_)).Nodup:=λL=>by
  induction L with
  | nil=>intro _;simp
  | cons d L v=>
    intro f
    rw[List.nodup_cons] at f
    rw[List.flatMap_cons,zy,List.nodup_append]
    refine⟨?_,v f.2,?_⟩
    ·unfold vO
     split
     ·simp
     ·exact(vN _).froms
    ·intro x l y w e
     obtain⟨s,c,rfl⟩:=zw.1 l
     obtain⟨t,g,rfl⟩:=zw.1 w
     obtain⟨i,j,g⟩:=List.mem_flatMap.1 g
     have m:=(VK a c).2
     have z:=(VK a g).2
     have h:d≠i:=λq=>f.1 (by rw[q];exact j)
     rw[e] at m
     rcases Int.lt_or_gt_of_ne h with r|u
     ·have:(d+1)*size<=i*size:=Int.mul_le_mul_of_nonneg_right (by omega) (by omega)
      omega
     ·have:(i+1)*size<=d*size:=Int.mul_le_mul_of_nonneg_right (by omega) (by omega)
      omega
 have k:=Xi (key L f) (b:=(qw C).map (·.from_)++L.map (· *size)) λx l=>by
  obtain⟨s,c,rfl⟩:=zw.1 l
  obtain⟨d,n,c⟩:=List.mem_flatMap.1 c
  rw[zJ]
  rcases (VK a c).1 with⟨p,o,e⟩|e
  ·exact .inl (zw.2 ⟨p,o,e.symm⟩)
  ·exact .inr (zw.2 ⟨d,n,e.symm⟩)
 simpa using k
theorem JR(C:List Spn)(L:List Int)(a:L.Nodup):(L.flatMap (xz C)).length<=(qw C).length+L.length:=Qga C 86400 (by decide) L a
theorem yEa{f g:Int->List Spn}{a b:Nat}(h:∀d,(f d).length<=a*(g d).length+b):∀L:List Int,(L.flatMap f).length<=a*(L.flatMap g).length+b*L.length
 | []=>by simp
 | d::L=>by
   have e:=h d
   have c:=yEa h L
   rw[List.flatMap_cons,List.flatMap_cons,ze,ze,List.length_cons,Nat.mul_add,Nat.mul_succ];omega
theorem zha{f g k:Int->List Spn}{a b c:Nat}(h:∀d,(f d).length<=a*(g d).length+b*(k d).length+c):∀L:List Int,(L.flatMap f).length<=a*(L.flatMap g).length+b*(L.flatMap k).length+c*L.length
 | []=>by simp
 | d::L=>by
   have i:=h d
   have e:=zha h L
   rw[List.flatMap_cons,List.flatMap_cons,List.flatMap_cons,ze,ze,ze,List.length_cons,Nat.mul_add,Nat.mul_add,Nat.mul_succ];omega
theorem ym{L:List Int}(h:L.Pairwise (· < ·)):L.Nodup:=h.imp λ{a b} q e=>by omega
open Go.Proofs
set_option maxRecDepth 100000
theorem wna(s:Setup)(l:List Seg)(d:Int):(xX s l d).length<=3*(xz (ja l) d).length+4*(xz (wC l 3) d).length+5:=by
 have c:=xm (xz (ja l) d) (vF s l d)
 have b:=Kc s (xz (ja l) d) (xz (wC l 3) d)
 have e:=qh (xz (ja l) d)
 have a:=qh (vF s l d)
 unfold xX
 unfold vF at*
 omega
theorem kra(s:Setup)(l:List Seg):(ZK s l).length<=7*l.length+4452:=by
 have h0:=qh ((qR (ja l)).flatMap (xX s l))
 have c:=zha (wna s l) (qR (ja l))
 have b:=JR (ja l) _ (ym (vt (ja l)).1)
 have g:=JR (wC l 3) _ (ym (vt (ja l)).1)
 have e:=yM (ja l)
 have h:=qh (ja l)
 have a:=qh (wC l 3)
 have f:=Zp l
 have d:=KX l 3
 unfold ZK
 omega
theorem ksa(s:Setup)(l:List Seg):(wP s l).length<=6*l.length+4452:=by
 have h0:=qh ((qR (ja l)).flatMap (vF s l))
 have c:=zha (λd=>Kc s (xz (ja l) d) (xz (wC l 3) d)) (qR (ja l))
 have b:=JR (ja l) _ (ym (vt (ja l)).1)
 have i:=JR (wC l 3) _ (ym (vt (ja l)).1)
 have g:=yM (ja l)
 have j:=qh (ja l)
 have a:=qh (wC l 3)
 have h:=Zp l
 have f:=KX l 3
 unfold wP
 have e:(qR (ja l)).flatMap (vF s l)=(qR (ja l)).flatMap λd=>wO s (xz (ja l) d) (xz (wC l 3) d):=rfl
 rw[e] at h0⊢
 omega
def VL(v:List Spn)(d:Int):AV:=spv (xz v d)
theorem Vya(j:Nat)(v:List Spn)(C:v.length<1048576):YLa Tryz.prog 244 [.ptr j 0] (λh=>h[j]? =some (.box 55 [spv v])) ((qR v).map (VL v)):=by
 intro l K x g D f a w A
 have hex:∃(r:AV) (h':List Ob),K ((qR v).map (VL v)).length h'/\ResK x h':=by
  obtain⟨h',q⟩:=a
  exact⟨.tup [],h',q⟩
 have I:=f 0 x g
 have u:=yM v
 refine zj Tryz.f244 [] 19 rfl rfl rfl rfl rfl rfl (by decide) (hex) λB=>?_
 simp only[go_sem,I,zb]
 refine zg (J3a _ _ v (jW _) C) ?_
 rintro _ M ⟨rfl,rfl⟩
 rw[zb] at a
 obtain⟨W,F⟩:∃W,W=qR v:=⟨_,rfl⟩
 rw[<-F] at u a A⊢
 simp only[go_sem,zb]
 refine zP (by decide) (λm T h'=>∃(i:Nat),i<=W.length/\K i h'/\T 0= .v (.func (.yield l) #[] #[])/\T 1= .ptr j 0/\T 6= .sl 1 (W.map qB)/\T 7=i64 W.length/\T 8=i64 i/\m=W.length - i) W.length
  ⟨0,by omega,g,by simp only[go_sem],by simp only[go_sem],by simp only[go_sem],by(simp only[go_sem]<;>rfl),by(simp only[go_sem]<;>rfl),rfl⟩ ?_
 rintro m T h' ⟨i,hi,p,t0,t1,t6,y,t8,rfl⟩
 simp only[go_sem,y,t8]
 refine ways (λe=>?_) (λe=>?_)
 ·have d:=dlt e
  have b:=Xk d
  have k:(i:Int)<W.length:=by omega
  have t:=f i h' p
  have s:(W.map (VL v))[i]? =some (VL v W[i]):=by rw[zx,zi d];rfl
  have c:=A i _ h' s p
  obtain⟨z,E⟩:∃z,z=W[i]:=⟨_,rfl⟩
  rw[<-E] at b c
  simp only[go_sem,t0,t1,t6,t8,b,t,k,zb,Int.toNat_natCast,zh]
  refine zg (wga _ _ v z (jW _) C) ?_
  rintro _ L ⟨rfl,rfl⟩
  simp only[go_sem]
  refine Jv c ?_
  rintro J ⟨o,H⟩
  simp only[go_sem,t8]
  exact⟨W.length - (i+1),by omega,i+1,by omega,o,t0,t1,t6,y,qm (by omega) rfl,rfl⟩
 ·have G:=xb e
  have n:i=W.length:=by omega
  subst n
  simp only[go_sem]
  exact⟨_,rfl,.inl p⟩
theorem Qha(h:List Ob)(v:List Spn):ACalls Tryz.prog 185 [spv v] h λr h'=>r= .fn (.func 244) [] [.ptr h.length 0]/\h'=h++[.box 55 [spv v]]:=by
 refine zj Tryz.f185 [.tmp 2] 4 rfl rfl rfl rfl rfl rfl (by decide) (⟨_,_,⟨rfl,rfl⟩,qS⟩) λB=>?_
 simp only[go_sem]
 exact⟨_,rfl,.inl ⟨rfl,rfl⟩⟩
theorem Xqa(h:List Ob)(j:Nat)(v:List Spn)(n:Int)(a:h[j]? =some (.box 55 [spv v]))(b:v.length<1048576)(c:Fit n):
  ACalls Tryz.prog 186 [i64 n,.ptr j 0] h λr h'=>r=spv (qJ v n)/\h'=h:=by
 refine zj Tryz.f186 [.tmp 3] 7 rfl rfl rfl rfl rfl rfl (by decide) (⟨_,_,⟨rfl,rfl⟩,.refl⟩) λB=>?_
 simp only[go_sem,a]
 refine zg (jOa _ _ v n (jW _) b c) ?_
 rintro _ d ⟨rfl,rfl⟩
 simp only[go_sem]
 exact⟨_,by simp only[go_sem],.inl ⟨rfl,rfl⟩⟩
def Sv(y:AV)(R:List Spn):Prop:=y=spv R∨y= .v (.slice none 0 0)/\R=[]
theorem Sv.sl{h:List Ob}{y:AV}{R:List Spn}(k:Sv y R):SlOf h y 2 (R.map qE):=by
 rcases k with rfl|⟨rfl,rfl⟩
 ·exact jW _
 ·exact⟨rfl,λh=>absurd rfl h⟩
def ZP(s:Setup)(W:List Spn)(l:List Int):List Spn:=l.flatMap λd=>qJ (xz W d) s.dayReg
def Z9(s:Setup)(W:List Spn)(l:List Int):List Spn:=l.flatMap λd=>qJ (xz W d) s.dayOver
def JS(s:Setup)(p:List Spn)(w:Int):List Spn × List Spn × List Spn:=
 let W:=js p w
 let t:=qJ (ZP s W (qR W)) s.weekReg
 (t,jz (Z9 s W (qR W)) t,jz W (Z9 s W (qR W)))
theorem yn(W:List Spn)(n:Int)(L:List Int)(c:L.Nodup):(L.flatMap λd=>qJ (xz W d) n).length<=W.length+L.length:=by
 have h:=yEa (f:=λd=>qJ (xz W d) n) (g:=xz W) (a:=1) (b:=0) (λd=>by
  have h:(qJ (xz W d) n).length<=(qw (xz W d)).length:=xK _ _
  have e:=qh (xz W d)
  omega) L
 have e:=JR W L c
 have i:=qh W
 omega
theorem Xra{s:Setup}{W:List Spn}{l:List Int}{n:Nat}(h:n<l.length):ZP s W (l.take (n+1))=ZP s W (l.take n)++qJ (xz W l[n]) s.dayReg:=Xm h
theorem Xsa{s:Setup}{W:List Spn}{l:List Int}{n:Nat}(h:n<l.length):Z9 s W (l.take (n+1))=Z9 s W (l.take n)++qJ (xz W l[n]) s.dayOver:=Xm h
structure KOv (h:List Ob) (s:Setup) (a:SA) (W:List Spn) (l:List Int) (h':List Ob):Prop where
 pre:Pre h h'
 set_:h'[h.length]? =some (.box 30 (qd s a))
 reg:∃y,h'[h.length+1]? =some (.box 55 [y])/\Sv y (ZP s W l)
 ovr:∃y,h'[h.length+2]? =some (.box 55 [y])/\Sv y (Z9 s W l)
 wk:h'[h.length+3]? =some (.box 55 [spv W])
theorem KOv.app{h:List Ob}{s:Setup}{a:SA}{W:List Spn}{l:List Int}{h':List Ob}(k:KOv h s a W l h'){M:List Ob}(b:NoRes M):KOv h s a W l (h'++M):=
 ⟨k.pre.app b,zf k.set_,let ⟨y,q1,q2⟩:=k.reg;⟨y,zf q1,q2⟩,let ⟨y,q1,q2⟩:=k.ovr;⟨y,zf q1,q2⟩,zf k.wk⟩
theorem KOv.raw{h:List Ob}{s:Setup}{a:SA}{W:List Spn}{b:List Int}{h':List Ob}(k:KOv h s a W b h'){j l o ks us o'}(f:h.length<=j)(d:h'[j]? =some (.raw l o ks us)):KOv h s a W b (h'.set j (.raw l o' ks us)):=by
 have c:∀(z:Nat) t cs,h'[z]? =some (.box t cs)->(h'.set j (.raw l o' ks us))[z]? =some (.box t cs):=λz t cs q=>by
  have:j≠z:=λe=>by rw[e,q] at d;cases d
  rw[zc this];exact q
 exact⟨k.pre.set f rfl,c _ _ _ k.set_,let ⟨y,q1,q2⟩:=k.reg;⟨y,c _ _ _ q1,q2⟩,let ⟨y,q1,q2⟩:=k.ovr;⟨y,c _ _ _ q1,q2⟩,c _ _ _ k.wk⟩
theorem KOv.put{h:List Ob}{s:Setup}{a:SA}{W:List Spn}{l l':List Int}{h':List Ob}(k:KOv h s a W l h'){M:List Ob}(d:NoRes M){y z:AV}(f:Sv y (ZP s W l'))(c:Sv z (Z9 s W l')):
  KOv h s a W l' (((h'++M).set (h.length+1) (.box 55 [y])).set (h.length+2) (.box 55 [z])):=by
 obtain⟨g,e,_⟩:=k.reg
 obtain⟨z0,b,_⟩:=k.ovr
 have i:=(zd.1 e).1
 have l2:=(zd.1 b).1
 refine⟨((k.pre.app d).set (by omega) rfl).set (by omega) rfl,?_,⟨y,?_,f⟩,⟨z,?_,c⟩,?_⟩
 ·rw[zc (by omega),zc (by omega)];exact zf k.set_
 ·rw[zc (by omega),zo (by rw[ze];omega)]
 ·rw[zo (by rw[zz,ze];omega)]
 ·rw[zc (by omega),zc (by omega)];exact zf k.wk
theorem KOv.raws{h:List Ob}{s:Setup}{a:SA}{W:List Spn}{l:List Int}{h':List Ob}(k:KOv h s a W l h'){M:List Ob}{o o':Ob}:RawK h' (((h'++M).set (h.length+1) o).set (h.length+2) o'):=by
 obtain⟨d,c,_⟩:=k.reg
 obtain⟨z0,b,_⟩:=k.ovr
 exact(RawK.app.trans (.setB (zf c))).trans (.setB ((zc (by omega)).trans (zf b)))
theorem qXb(h:List Ob)(s:Setup)(a:SA)(k:SIn h s a)(f:SFit s)(K:qv s=true)(x:AV)(p:List Spn)(w:Int)(A:SlOf h x 2 (p.map qE))(hl:p.length<262144):
  ACalls Tryz.prog 115 [je s a,x,i64 w] h λr h'=>r= .tup [spv (JS s p w).1,spv (JS s p w).2.1,spv (JS s p w).2.2]/\h'=h:=by
 have ht:=VJ K
 refine Wl Tryz.f115 [.tmp 6,.tmp 7,.tmp 8] 49 rfl rfl rfl rfl rfl rfl (⟨_,rfl⟩) λbs=>?_
 refine kB (by decide) ?_
 simp only[go_sem,k.ones]
 refine kB (by decide) ?_
 simp only[go_sem,k.ones]
 refine zg (c16 _ s a (k.app _) f) ?_
 rintro _ h1 ⟨rfl,rfl⟩
 simp only[go_sem,K,qD,Bool.not_true]
 refine kB (by decide) ?_
 simp only[go_sem]
 refine kB (by decide) ?_
 simp only[go_sem]
 refine zg (yta _ x p w (A.app _) (by omega)) ?_
 rintro _ h1 ⟨rfl,rfl⟩
 simp only[go_sem]
 have V:(js p w).length<=(qw p).length+1:=Qm _ _ _
 have hnl:=qh p
 obtain⟨W,hW⟩:∃W,W=js p w:=⟨_,rfl⟩
 have T:JS s p w=(qJ (ZP s W (qR W)) s.weekReg,jz (Z9 s W (qR W)) (qJ (ZP s W (qR W)) s.weekReg),jz W (Z9 s W (qR W))):=by rw[hW];rfl
 rw[T]
 rw[<-hW] at V⊢
 refine Y5 ?_
 refine kB (by decide) ?_
 simp only[go_sem]
 refine zg (Qha _ W) ?_
 rintro _ h1 ⟨rfl,rfl⟩
 simp only[go_sem]
 have hdf:=yM W
 have base:KOv h s a W ((qR W).take 0) (h++[.box 30 (qd s a),.box 55 [.v (.slice none 0 0)],.box 55 [.v (.slice none 0 0)],.box 55 [spv W]]):=
  ⟨⟨_,rfl,zr rfl (zr rfl (zr rfl (zG rfl)))⟩,by rw[zM rfl];rfl,⟨_,by rw[zK (k:=1) rfl];rfl,.inr ⟨rfl,rfl⟩⟩,⟨_,by rw[zK (k:=2) rfl];rfl,.inr ⟨rfl,rfl⟩⟩,by rw[zK (k:=3) rfl];rfl⟩
 refine yva (Wk (qQa (Y6 (p:=22) (by decide) rfl (by simp only[go_sem]) (Vya (h.length+3) W (by omega))
  (λn h'=>KOv h s a W ((qR W).take n) h')
  (λn x B u=>B 3= .ptr h.length 0/\B 9= .ptr (h.length+1) 0/\B 10= .ptr (h.length+2) 0/\∃d j,(qR W)[n]? =some d/\B 12= .ptr j 0/\u[j]? =some (.box 55 [spv (xz W d)])/\j≠h.length+1/\j≠h.length+2/\KOv h s a W ((qR W).take n) u)
  ?_ (λn h' M F k=>k.app F) (λn h' k=>k.wk) ?_ ?_ ?_ ?_ ?_) ?_))
 ·exact λM F=>base.app F
 ·intro M F
  have q:=(base.app F).put (M:=[]) (l':=(qR W).take ((qR W).map (VL W)).length) jf (.inl rfl) (.inl rfl)
  refine⟨_,q,(base.app F).pre.resK q.pre,(base.app F).raws⟩
 ·intro n h' j l o ks us o' hj k N
  exact k.raw (Nat.le_trans (by rw[ze];exact Nat.le_add_right _ _) hj) N
 ·rintro n x B u j l o ks us o' hj ⟨t3,t9,t10,d,m,q1,q2,S,q4,q5,k⟩ N
  refine⟨t3,t9,t10,d,m,q1,q2,?_,q4,q5,k.raw (Nat.le_trans (by rw[ze];exact Nat.le_add_right _ _) hj) N⟩
  have:j≠m:=λe=>by rw[e,S] at N;cases N
  rw[zc this];exact S
 ·intro bb l n x h' A k
  rw[zx] at A
  cases hs:(qR W)[n]? with
  | none=>rw[hs] at A;cases A
  | some d=>
    rw[hs] at A
    injection A with A
    subst A
    refine QW (by decide) (by decide) ?_
    have σ:=(zd.1 k.wk).1
    simp only[go_sem,J6a,VL]
    exact⟨⟨d,h'.length,rfl,rfl,by rw[zM rfl];rfl,by omega,by omega,k.app (zG rfl)⟩,.app,.app⟩
 ·rintro bb l n x B u A ⟨t3,t9,t10,d,m,q1,q2,S,q4,q5,k⟩
  obtain⟨y,O,Q⟩:=k.reg
  obtain⟨z,H,I⟩:=k.ovr
  refine qPa (Vka (QW (by decide) (by decide) ?_))
  simp only[go_sem,q2]
  refine J4a rfl [.res,.res] 2 [(1,0,[]),(2,0,[]),(8,0,[]),(9,0,[]),(0,0,[]),(3,0,[]),(7,0,[]),(10,0,[]),(4,0,[0,7,10]),(5,0,[]),(6,0,[7,10]),(11,0,[7]),(12,1,[]),(13,0,[]),(14,0,[]),(15,0,[])] rfl (by decide) (by decide) (by decide) (λ_ _ q=>by cases q.1) ?_
  have g:∀M,(u++M)[h.length+1]? =some (.box 55 [y]):=λM=>zf O
  have c:∀M,(u++M)[h.length+2]? =some (.box 55 [z]):=λM=>zf H
  have b:∀M,(u++M)[h.length]? =some (.box 30 (qd s a)):=λM=>zf k.set_
  have β:=(Q.sl (h:=h)).cells
  have Z:=(Q.sl (h:=h)).one
  have X:=(I.sl (h:=h)).cells
  have U:=(I.sl (h:=h)).one
  have i:=ym ((vt W).1.sublist (List.take_sublist n _))
  have E:=yn W s.dayReg _ i
  have C:=yn W s.dayOver _ i
  rw[qa] at E C
  have hdl:=Qp W d
  have τ:(qJ (xz W d) s.dayReg).length<=(qw (xz W d)).length:=xK _ _
  have ξ:(qJ (xz W d) s.dayOver).length<=(qw (xz W d)).length:=xK _ _
  have ω:=qh (xz W d)
  have φ:=ht.dayReg
  have υ:=ht.dayOver
  obtain⟨J,Y⟩:=zd.1 q1
  have e1:=Xra (s:=s) (W:=W) J
  have e2:=Xsa (s:=s) (W:=W) J
  rw[Y] at e1 e2
  simp only[go_sem,t3,t9,t10,g,c,b]
  refine zg (Xqa _ m (xz W d) s.dayReg (zf S) (by omega) (by unfold Fit;omega)) ?_
  rintro _ G ⟨rfl,rfl⟩
  simp only[go_sem,Z,β,t3,t9,t10,g,c,b]
  refine zg (zea _ u.length y _ (ZP s W ((qR W).take n)) (qJ (xz W d) s.dayReg) (by rw[zM rfl];rfl) Q.sl (jW _) (by unfold ZP;omega) (by omega)) ?_
  rintro _ G ⟨rfl,rfl⟩
  rw[<-e1]
  simp only[go_sem,t3,t9,t10,g,c,b]
  refine zg (Xqa _ m (xz W d) s.dayOver (zf S) (by omega) (by unfold Fit;omega)) ?_
  rintro _ G ⟨rfl,rfl⟩
  simp only[go_sem,U,X,t3,t9,t10,g,c,b]
  refine zg (zea _ (u.length+1) z _ (Z9 s W ((qR W).take n)) (qJ (xz W d) s.dayOver) (by rw[zK (k:=1) rfl];rfl) I.sl (jW _) (by unfold Z9;omega) (by omega)) ?_
  rintro _ G ⟨rfl,rfl⟩
  rw[<-e2]
  have ne:h.length+1≠h.length+2:=by omega
  simp only[go_sem,t3,t9,t10,g,c,b,zc,ne,ne_eq,not_false_eq_true]
  exact⟨k.put (zr rfl (zG rfl)) (.inl rfl) (.inl rfl),k.raws,(KeepB.app.trans (.setL (by omega))).trans (.setL (by omega))⟩
 ·rintro e ds B u ⟨rfl,rfl,D,id,rfl,hid,R,k⟩
  rw[ze] at hid
  rw[zb,zZ] at k
  obtain⟨y,O,Q⟩:=k.reg
  obtain⟨z,H,I⟩:=k.ovr
  have P:=k.pre
  have b:=k.set_
  have i:=ym (vt W).1
  have E:=yn W s.dayReg _ i
  have C:=yn W s.dayOver _ i
  have ρ:=ht.weekReg
  have χ:(ZP s W (qR W)).length<=W.length+(qR W).length:=E
  have ψ:(Z9 s W (qR W)).length<=W.length+(qR W).length:=C
  refine⟨rfl,(kB (by decide) ?_:Xw _ _ _ _ _ _ _ _)⟩
  simp only[go_sem,O,H,b]
  refine zg (jOa _ y (ZP s W (qR W)) s.weekReg Q.sl (by omega) (by unfold Fit;omega)) ?_
  rintro _ G ⟨rfl,rfl⟩
  simp only[go_sem]
  obtain⟨t,L⟩:∃t,t=qJ (ZP s W (qR W)) s.weekReg:=⟨_,rfl⟩
  have ο:t.length<=(qw (ZP s W (qR W))).length:=by rw[L];exact xK _ _
  have htn:=qh (ZP s W (qR W))
  rw[<-L]
  refine yva (qRa (by decide) ?_)
  simp only[go_sem]
  refine zV rfl [] 0 [(0,0,[]),(2,0,[]),(4,0,[]),(1,0,[]),(5,0,[]),(3,0,[5]),(6,0,[]),(7,0,[]),(8,0,[]),(9,0,[])] rfl (by decide) (by decide) ?_
  simp only[go_sem,O,H]
  refine zg (Ka _ z _ (Z9 s W (qR W)) t I.sl (jW _) (by omega) (by omega)) ?_
  rintro _ G ⟨rfl,rfl⟩
  simp only[go_sem,H]
  refine zg (Ka _ _ z W (Z9 s W (qR W)) (jW _) I.sl (by omega) (by omega)) ?_
  rintro _ G ⟨rfl,rfl⟩
  simp only[go_sem,O,H]
  exact Xba (.inr ⟨D,id,rfl,by omega,R⟩) P (r:= .tup [spv t,spv (jz (Z9 s W (qR W)) t),spv (jz W (Z9 s W (qR W)))]) (λ_=>rfl) (Vxa _ _ _) rfl
open Go.Shelf Go.RowKit Go.Lib Go.Sort
def Zb{α:Type}(enc:α->List Value)(l:List α):List Value:=(l.map enc).flatten
theorem Xn{α:Type}(enc:α->List Value)(K:Nat)(a:∀x,(enc x).length=K):∀l:List α,(Zb enc l).length=l.length*K
 | []=>by simp[Zb]
 | x::l=>by
   have:=Xn enc K a l
   simp only[Zb,List.map_cons,List.flatten_cons,ze,List.length_cons,a] at this⊢
   rw[this,Nat.succ_mul];omega
theorem zia{α:Type}(enc:α->List Value):∀l:List α,(l.map λx=>(enc x).map AV.v).flatten=(Zb enc l).map .v
 | []=>rfl
 | x::l=>by
   have:=zia enc l
   simp only[Zb,List.map_cons,List.flatten_cons,zy] at this⊢
   rw[this]
section
variable {α:Type} [Inhabited α] (enc:α->List Value) (K:Nat)
theorem KY(e:0<K)(a:∀x,(enc x).length=K):∀(l:List α) (t:Nat),t<l.length*K->(Zb enc l)[t]? =some ((enc l.toArray[t / K]!)[t % K]!)
 | [],t,h=>by simp at h
 | x::l,t,h=>by
   by_cases b:t<K
   ·have d:(Zb enc (x::l))[t]? =(enc x)[t]? :=by
     simp only[Zb,List.map_cons,List.flatten_cons]
     rw[zH (by rw[a];exact b)]
    have f:t<(enc x).length:=by rw[a];exact b
    rw[d,Nat.div_eq_of_lt b,Nat.mod_eq_of_lt b,zi f]
    simp[getElem!_pos (enc x) t f]
   ·have d:(Zb enc (x::l))[t]? =(Zb enc l)[t - K]? :=by
     simp only[Zb,List.map_cons,List.flatten_cons]
     rw[zQ (by rw[a];omega),a]
    have c:t - K<l.length*K:=by rw[List.length_cons,Nat.succ_mul] at h;omega
    rw[d,KY e a l _ c]
    have i:t / K=(t - K) / K+1:=by rw[Nat.div_eq_sub_div e (by omega)]
    have g:t % K=(t - K) % K:=Nat.mod_eq_sub_mod (by omega)
    rw[i,g]
    simp
theorem Ws(c:0<K)(a:∀x,(enc x).length=K)(l:List α):(flatK enc K l.toArray).toList=Zb enc l:=by
 apply qP
 intro t
 by_cases b:t<l.length*K
 ·rw[KY enc K c a l t b]
  simp[flatK,b]
 ·rw[qA (by simp;omega),qA (by rw[Xn enc K a];omega)]
theorem Xta{P:Program}{f T:FuncId}{ty:TypeId}(hK:0<K)(m:∀x,(enc x).length=K)(lt:α->α->Bool)(I:XQ P f=true)
  (hex:∀l:List α,∃l':List α,l'.Perm l/\l'.Pairwise λa b=>lt b a=false)
  (hc:∀(blk off cap:Nat) (d:Array α) (w:World),HoldsK enc K w blk off d->blk<w.heap.size->d.size<4611686018427387904->Calls P f #[.slice (some ⟨blk,off,none⟩) d.size cap,.func (.func T) #[] #[]] w λe w'=>e= .returned (.tuple #[])/\∃c n os,PermIn 0 d.size d c/\SortedIn lt 0 d.size c/\w'=sortWorldK enc K w blk off n c os)
  (O:∀(A:Option Addr) (cap:Nat) (w:World),Calls P f #[.slice A 0 cap,.func (.func T) #[] #[]] w λe w'=>e= .returned (.tuple #[])/\w'=w)
  (h:List Ob) (id st:Nat) (l:List α) (M:h[id]? =some (.row ty K (l.map λx=>(enc x).map .v) st)) (hl:l.length<1099511627776):
  ACalls P f [.tl id st,.fn (.func T) [] []] h λr h'=>r= .tup []/\∃l':List α,l'.Perm l/\(l'.Pairwise λa b=>lt b a=false)/\h'=h.set id (.row ty K (l'.map λx=>(enc x).map .v) st):=by
 refine⟨I,?_,?_⟩
 ·obtain⟨l',q1,L⟩:=hex l
  exact⟨_,_,⟨rfl,l',q1,L,rfl⟩,qj M rfl⟩
 ·intro φ hu B w g vs Z hB E
  have y:(fill φ h)[id]? =some (.row ty K (l.map λx=>(enc x).map .v) st):=qy M rfl
  obtain⟨v1,r1,rfl,⟨_,U,F⟩,v2,r2,rfl,⟨us,vs,rfl,t,s⟩,V⟩:=E
  have V:r2=[]:=V
  subst V
  have t:us.toList=[]:=t
  have s:vs.toList=[]:=s
  have t:us= #[]:=by simpa using t
  have s:vs= #[]:=by simpa using s
  subst t;subst s
  have e0:v1=g.cur id:=(F st (by simp[ctx,y,Ob.tok])).2 rfl
  obtain⟨q0,q1,cells,L,q3⟩:=Z.ok id _ y
  rw[zia] at q3
  have e1:=KS q3
  subst e1
  by_cases H:l=[]
  ·subst H
   have Q:∃A k,g.cur id= .slice A 0 k:=by
    rcases L.2 with⟨o,_⟩|⟨C,cap,cur,o,_⟩
    ·exact⟨_,_,o⟩
    ·exact⟨_,_,o⟩
   obtain⟨A,k,Q⟩:=Q
   rw[e0,Q]
   refine(O A k w).mono ?_
   rintro e w' ⟨rfl,rfl⟩
   exact⟨_,_,_,_,rfl,⟨rfl,[],.refl _,.nil,(qM M).symm⟩,.refl,Good.refl Z hB, #[],rfl,rfl⟩
  rcases L.2 with⟨_,o⟩|⟨C,cap,cur,o,e4,N,X,e7,e8,e9⟩
  ·exfalso
   simp at o
   exact H o
  ·have o:g.cur id=_:=o
   simp only[zb] at o X e9
   have W:l.length*K<=cur.size:=by rw[e8];exact Nat.mul_le_mul_right _ X
   have Y:∀j,j<l.length*K->cur[j]? =some ((enc l.toArray[j / K]!)[j % K]!):=λj u=>by
    rw[<-KY enc K hK m l j u, <-e9,jr,if_pos u,qr]
   have hH:HoldsK enc K w C 0 l.toArray:=λj u=>by
    have u:j<l.length*K:=by simpa using u
    refine⟨?_,?_⟩
    ·simp only[World.cell?,N,Nat.zero_add]
     rw[get_flatK _ _ _ _ (by simpa using u)]
     exact Y j u
    ·simp[World.frozen?,N]
   have p:=hc C 0 cap l.toArray w hH (qx.1 N).1 (by simp;omega)
   rw[e0,o]
   have S:l.toArray.size=l.length:=by simp
   rw[S] at p
   refine p.mono ?_
   rintro e w' ⟨rfl,c,n,os,hp,hs,rfl⟩
   obtain⟨p1,p2,p3⟩:=hp
   have J:c.size=l.length:=by rw[p1];simp
   have z:c.toList.Perm l:=by
    have a1:c.extract 0 l.length=c:=by rw[<-J];simp
    have a2:l.toArray.extract 0 l.length=l.toArray:=by simp
    rw[a1,a2] at p3
    exact p3
   have D:c.toList.Pairwise λa b=>lt b a=false:=by
    rw[List.pairwise_iff_getElem]
    intro i j hi u R
    simp only[qH] at hi u
    have:=hs i j (by omega) R (by omega)
    rw[getElem!_pos c i hi,getElem!_pos c j u] at this
    simpa using this
   have hF:(flatK enc K c).toList=Zb enc c.toList:=Ws enc K hK m c.toList
   have G:(flatK enc K c).size=l.length*K:=by simp[J]
   have q:=Qa (w':=sortWorldK enc K w C 0 n c os) (v':=g.cur id) (st':=st) (xs':=c.toList.map λx=>(enc x).map .v) (cells:=Zb enc c.toList) Z hB y (by simp[m]) (by rw[o];exact VE w C n _ os)
    ⟨by rw[Xn enc K m];simp,.inr ⟨C,cap,_,by simp[o,J],e4,YR w C n _ os N,by simp[J];exact X,e7,by simp[putCells];exact e8,by
     have:=YS (flatK enc K c) cur (by rw[G];exact W)
     rw[hF,G] at this
     simpa [J] using this⟩⟩ (by rw[zia];exact Jn _) (.inl ⟨rfl,rfl⟩) (λb hb=> .inl hb)
   rw[<-jc rfl] at q
   exact⟨_,_,_,_,rfl,⟨rfl,c.toList,z,D,rfl⟩,qj M rfl,q, #[],rfl,rfl⟩
end
structure Pt where
 from_:Int
 to_:Int
 kind:Int
instance:Inhabited Pt:=⟨⟨0,0,0⟩⟩
def yFa(x:Pt):List Value:=[.int .i64 x.from_,.int .i64 x.to_,.int .i64 x.kind]
def ptC(x:Pt):List AV:=[i64 x.from_,i64 x.to_,i64 x.kind]
theorem W2a{n:Nat}:∀l:List Pt,qQ n (l.map ptC)=true
 | []=>rfl
 | s::l=>by
   rw[List.map_cons,qQ,W2a l];rfl
set_option maxHeartbeats 1000000 in
theorem Qia(x y:Pt)(W:World):Calls Tryz.prog 121 #[.agg #[.int .i64 x.from_,.int .i64 x.to_,.int .i64 x.kind],.agg #[.int .i64 y.from_,.int .i64 y.to_,.int .i64 y.kind]] W λe w'=>e= .returned (.int .i64 (Lib.compareInt x.from_ y.from_))/\∃q b,w'=grow (W.drewN q) b:=by
 have a:=λc=>AnyG.cmp_Compare_int waa x.from_ y.from_ c
 change ∀c,Calls Tryz.prog 122 _ _ _ at a
 generalize Lib.compareInt x.from_ y.from_=r at a⊢
 go_enter Tryz.func121,Tryz.ntmps121
 go_wp2_with (go_at_call 122;refine(a _).mono ?_;rintro e w' ⟨rfl,rfl⟩)
 go_ret
 exact⟨rfl,0,_,by rw[alloc_eq_grow,alloc_eq_grow,grow_grow];rfl⟩
theorem Qja(blk off size:Nat)(w:World):CmpLays Tryz.prog 121 #[] yFa 3 (λx y=>Lib.compareInt x.from_ y.from_) blk off size w:=
 λ_ _ _ _ x y=>Qia x y _
theorem Vza(x y:Pt):ltOf (λx y:Pt=>Lib.compareInt x.from_ y.from_) x y=decide (x.from_<y.from_):=by
 unfold ltOf Lib.compareInt
 by_cases a:x.from_<y.from_
 ·simp[a]
 ·by_cases b:y.from_<x.from_<;>simp[a,b]
theorem qYb:SWO (ltOf λx y:Pt=>Lib.compareInt x.from_ y.from_):=
 { irrefl:=λx=>by rw[Vza];simp
   trans:=λx y z b a=>by rw[Vza] at *; simp at *; omega
   ntrans:=λx y z b a=>by rw[Vza] at *; simp at *; omega }
theorem VAa(h:List Ob)(id st:Nat)(l:List Pt)(k:h[id]? =some (.row 194 3 (l.map ptC) st))(n:l.length<1099511627776):
  ACalls Tryz.prog 120 [.tl id st,.fn (.func 121) [] []] h λr h'=>r= .tup []/\∃l':List Pt,l'.Perm l/\(l'.Pairwise λa b=>ltOf (λx y:Pt=>Lib.compareInt x.from_ y.from_) b a=false)/\h'=h.set id (.row 194 3 (l'.map ptC) st):=by
 refine Xta yFa 3 (by decide) (λ_=>rfl) (ltOf λx y:Pt=>Lib.compareInt x.from_ y.from_) (by kernel_rfl) (λl=>?_) ?_ ?_ h id st l k n
 ·refine⟨_,List.mergeSort_perm l (λa b=>decide (a.from_<=b.from_)),?_⟩
  have:=List.pairwise_mergeSort (le:=λa b:Pt=>decide (a.from_<=b.from_)) (λa b c p o=>by simp at *; omega) (λa b=>by simp;omega) l
  exact this.imp λh=>by rw[Vza];simpa using h
 ·intro blk off cap d w j f g
  have m:∀args w,(callFunc 121 args).run Tryz.prog w= .ok (.enter 121 args) w:=enters_of Tryz.func121 (by kernel_rfl) rfl
  have e:=AnyQ.slices_SortFunc zja 3 Tryz.isAgg194 Tryz.sizeOf194 yFa (λ_=>rfl) (λx v i=>by simp[yFa] at i;rcases i with rfl|rfl|rfl<;>rfl) (λx y=>Lib.compareInt x.from_ y.from_) qYb 121 #[] blk off cap d w m (Qja blk off d.size w) j f g
  exact e
 ·intro A cap w
  have e:=AnyF.slices_SortFunc_none zja A cap (.func (.func 121) #[] #[]) w
  exact e
theorem Xua(x:AV):xw Tryz.prog 120 [.v (.slice none 0 0),x] (.tup []):=λh=>by
 refine⟨by kernel_rfl,⟨_,_,⟨rfl,rfl⟩,.refl⟩,?_⟩
 intro φ k B w g vs j hB a
 obtain⟨v1,l,rfl,d,f,i,rfl,_,c⟩:=a
 have c:i=[]:=c
 subst c
 have d:v1= .slice none 0 0:=d
 subst d
 have b:=AnyF.slices_SortFunc_none zja none 0 f w
 refine Calls.mono b ?_
 rintro e w' ⟨rfl,rfl⟩
 exact⟨_,_,_,_,rfl,⟨rfl,rfl⟩,.refl,Good.refl j hB, #[],rfl,rfl⟩
def ZQ(l:List Spn)(k:Int):List Pt:=l.map λs=>⟨s.from_,s.to_,k⟩
theorem yN(l:List Spn)(k:Int):(ZQ l k).length=l.length:=by simp[ZQ]
theorem YUa(F:List (Nat × Ob))(h0 h:List Ob)(i:Nat)(p:List Pt)(l:List Spn)(a:Int)(k:LIn F h0 h i 126 194 3 (p.map ptC))(N:p.length<1073741824)(O:l.length<1073741824):
  ACalls Tryz.prog 116 [spv l,i64 a,.ptr i 0] h λr h'=>r= .tup []/\LIn F h0 h' i 126 194 3 ((p++ZQ l a).map ptC):=by
 have hex:∃r h',(r=AV.tup []/\LIn F h0 h' i 126 194 3 ((p++ZQ l a).map ptC))/\ResK h h':=by
  obtain⟨h',K,E⟩:=k.any ((p++ZQ l a).map ptC)
  exact⟨_,h',⟨rfl,K⟩,E⟩
 refine zj Tryz.f116 [] 23 rfl rfl rfl rfl rfl rfl (by decide) (hex) λB=>?_
 simp only[go_sem,zb]
 refine zP (by decide) (λm T h'=>∃n:Nat,n<=l.length/\LIn F h0 h' i 126 194 3 ((p++ZQ (l.take n) a).map ptC)/\T 1=i64 a/\T 2= .ptr i 0/\T 7=spv l/\T 8=i64 l.length/\T 9=i64 n/\m=l.length - n) l.length
  ⟨0,by omega,by simpa [ZQ] using k,by simp only[go_sem],by simp only[go_sem],by simp only[go_sem],by(simp only[go_sem]<;>rfl),by(simp only[go_sem]<;>rfl),rfl⟩ ?_
 clear k hex
 rintro m T h' ⟨n,L,k,t1,t2,A,t8,t9,rfl⟩
 simp only[go_sem,t8,t9]
 refine ways (λe=>?_) (λe=>?_)
 ·have o:=dlt e
  have c:=QV o
  have j:(n:Int)<l.length:=by omega
  have b:(p++ZQ (l.take (n+1)) a).map ptC=(p++ZQ (l.take n) a).map ptC++[[i64 (l[n]).from_,i64 (l[n]).to_,i64 a]]:=by
   rw[show l.take (n+1)=l.take n++[l[n]] from(zI o).symm]
   simp only[ZQ,zy,List.map_cons,List.map_nil,zp]
   rfl
  have f:((p++ZQ (l.take n) a).length+1)*25<=140737488355328:=by
   rw[ze,yN,qa];omega
  obtain⟨z,C⟩:∃z,z=l[n]:=⟨_,rfl⟩
  rw[<-C] at c b
  obtain⟨P,D⟩:∃P,P=(p++ZQ (l.take n) a):=⟨_,rfl⟩
  rw[<-D] at b f k
  obtain⟨J,d,w⟩:=k.at_
  have hi:=k.lt
  have g:∀M,(h'++M)[i]? =some (.box 126 [J]):=λM=>zf d
  rcases w with⟨rfl,t⟩|⟨id,st,H,rfl,u⟩
  ·simp only[go_sem,t1,t2,A,t9,c,j,d,g,zb,Int.toNat_natCast,zh]
   rw[t,List.nil_append] at b
   have q:=k.push_nil (M:=[.box 143 (qE z),.row 194 3 [[i64 z.from_,i64 z.to_,i64 a]] 0,.row 194 3 [[i64 z.from_,i64 z.to_,i64 a]] 0]) (zr rfl (zr rfl (zG rfl))) (id:=h'.length+2) (by omega) (by rw[zK (k:=2) rfl];rfl)
   rw[<-b] at q
   exact⟨l.length - (n+1),by omega,n+1,by omega,by rw[b] at q ⊢;exact q,t8,qm (by omega) rfl,rfl⟩
  ·have G:∀M,(h'++M)[id]? =some (.row 194 3 (P.map ptC) st):=λM=>zf u
   have x:id≠i:=λq=>by rw[q,d] at u;cases u
   have s:∀M o',((h'++M).set id o')[i]? =some (.box 126 [.tl id st]):=λM o'=>by
    rw[zc x];exact g M
   simp only[go_sem,t1,t2,A,t9,c,j,d,g,G,s,f,zb,Int.toNat_natCast,zh]
   have y:∀M,NoRes M->LIn F h0 (((h'++M).set id (.row 194 3 (P.map ptC++[[i64 z.from_,i64 z.to_,i64 a]]) (st+1))).set i (.box 126 [.tl id (st+1)])) i 126 194 3 ((p++ZQ (l.take (n+1)) a).map ptC):=λM y=>by
    rw[b];exact k.push_own y H u
   exact⟨l.length - (n+1),by omega,n+1,by omega,y _ (zr rfl (zG rfl)),t8,qm (by omega) rfl,rfl⟩
 ·have I:=xb e
  have v:n=l.length:=by omega
  subst v
  rw[zZ] at k
  simp only[go_sem]
  exact⟨_,rfl,.inl ⟨rfl,k⟩⟩
theorem kta{P:Program}{f:FuncId}{ar:List AV}{h:List Ob}{α:Type}{S:α->Prop}{g:α->List (List AV)}{e:Nat}(s:0<e)(o:∀q,qQ h.length (g q)=true)(c:ACalls P f ar h λr h'=>∃q,S q/\∃L,h'=h++L/\NoRes L/\New h e r (g q) L):ACalls P f ar h λr h'=>(∃q,S q/\r= .sl e (g q))/\h'=h:=by
 refine⟨c.1,(let ⟨_,_,⟨q,d,_⟩,_⟩:=c.2.1;⟨_,_,⟨⟨q,d,rfl⟩,rfl⟩,.refl⟩),λφ k B w p vs m hB b=>?_⟩
 refine(c.2.2 φ k B w p vs m hB b).mono λu w' ⟨v,r,h',g',t,⟨q,d,L,n,_,j⟩,_,i,l⟩=>?_
 subst n
 rw[jC k] at i l
 have a:(fill φ h).length=h.length:=q9
 refine⟨v,_,h,g',t,⟨⟨q,d,rfl⟩,rfl⟩,.refl,i.drop rfl (by have:=m.ids;exact this),?_⟩
 exact QT i.ok s l (j _ a) (λid hid=>by rw[a];exact j.root id hid) (by rw[a];exact o q)
def oj(o:List Spn × List Spn × List Spn):Nat->List Spn
 | 0=>o.1
 | 1=>o.2.1
 | _=>o.2.2
def Xx(s:Setup)(o:List Spn × List Spn × List Spn)(fr:List Spn):Nat->List Pt
 | 0=>ZQ fr 0
 | j+1=>Xx s o fr j++ZQ (jz (oj o j) (jX s (oj o j))) (1+j)++ZQ (jX s (oj o j)) (4+j)
def wc(s:Setup)(l:List Seg)(w:Int):List Pt:=Xx s (JS s (ZK s l) w) (js (wP s l) w) 3
theorem VM(s:Setup)(l:List Spn):(jX s l).length<=l.length+742:=by
 unfold jX
 split
 ·have b:=YV l (vW s (qR l))
  have a:=qh l
  have d:=qh (vW s (qR l))
  have c:=QY s (qR l)
  have e:=yM l
  omega
 ·simp
theorem kua(s:Setup)(p:List Spn)(w:Int):(JS s p w).1.length<=p.length+372/\(JS s p w).2.1.length<=2*p.length+745/\(JS s p w).2.2.length<=2*p.length+745:=by
 have a:=ym (vt (js p w)).1
 have c:=yn (js p w) s.dayReg _ a
 have b:=yn (js p w) s.dayOver _ a
 have m:=yM (js p w)
 have k:(js p w).length<=(qw p).length+1:=Qm _ _ _
 have n:=qh p
 have i:(qJ (ZP s (js p w) (qR (js p w))) s.weekReg).length<=(qw (ZP s (js p w) (qR (js p w)))).length:=xK _ _
 have l:=qh (ZP s (js p w) (qR (js p w)))
 have j:=xm (Z9 s (js p w) (qR (js p w))) (qJ (ZP s (js p w) (qR (js p w))) s.weekReg)
 have o:=xm (js p w) (Z9 s (js p w) (qR (js p w)))
 have d:=qh (Z9 s (js p w) (qR (js p w)))
 have e:=qh (js p w)
 have f:=qh (qJ (ZP s (js p w) (qR (js p w))) s.weekReg)
 have g:(ZP s (js p w) (qR (js p w))).length<=(js p w).length+(qR (js p w)).length:=c
 have h:(Z9 s (js p w) (qR (js p w))).length<=(js p w).length+(qR (js p w)).length:=b
 refine⟨?_,?_,?_⟩
 ·show(qJ (ZP s (js p w) (qR (js p w))) s.weekReg).length<=_;omega
 ·show(jz (Z9 s (js p w) (qR (js p w))) (qJ (ZP s (js p w) (qR (js p w))) s.weekReg)).length<=_;omega
 ·show(jz (js p w) (Z9 s (js p w) (qR (js p w)))).length<=_;omega
theorem VBa(h:List Ob)(s:Setup)(a:SA)(k:SIn h s a)(f:SFit s)(t:qv s=true)(x:AV)(l:List Seg)(w:Int)(hx:SlOf h x 5 (l.map kG))(hl:l.length<32768):
  ACalls Tryz.prog 57 [je s a,x,i64 w] h λr h'=>∃q:List Pt,q.Perm (wc s l w)/\∃L,h'=h++L/\NoRes L/\New h 3 r (q.map ptC) L:=by
 have hex:∃r h',(∃q:List Pt,q.Perm (wc s l w)/\∃L,h'=h++L/\NoRes L/\New h 3 r (q.map ptC) L)/\ResK h h':=
  ⟨.sl 3 _,_,⟨_,.refl _,[],rfl,jf,λ_ _=>⟨rfl,λ_=>rfl⟩⟩,qS⟩
 refine zj Tryz.f57 [.tmp 6] 68 rfl rfl rfl rfl rfl rfl (by decide) (hex) λB=>?_
 simp only[go_sem,k.ones]
 refine zg (c16 _ s a (k.app _) f) ?_
 rintro _ C ⟨rfl,rfl⟩
 simp only[go_sem,t,qD,Bool.not_true]
 refine zg (qWb _ s a (k.app _) f t x l (hx.app _) hl) ?_
 rintro _ C ⟨rfl,rfl⟩
 simp only[go_sem]
 have υ:=kra s l
 have ο:=ksa s l
 refine zg (qXb _ s a (k.app _) f t _ (ZK s l) w (jW _) (by omega)) ?_
 rintro _ C ⟨rfl,rfl⟩
 simp only[go_sem]
 refine zg (yta _ _ (wP s l) w (jW _) (by omega)) ?_
 rintro _ C ⟨rfl,rfl⟩
 simp only[go_sem]
 obtain⟨o,Y⟩:∃o,o=JS s (ZK s l) w:=⟨_,rfl⟩
 obtain⟨fr,u⟩:∃fr,fr=js (wP s l) w:=⟨_,rfl⟩
 have N:wc s l w=Xx s o fr 3:=by rw[Y,u];rfl
 have R:=kua s (ZK s l) w
 have β:fr.length<=(qw (wP s l)).length+1:=by rw[u];exact Qm _ _ _
 have ζ:=qh (wP s l)
 rw[N]
 rw[<-Y] at R
 rw[<-Y, <-u]
 have J:∀j,(oj o j).length<=468401:=λj=>by
  unfold oj
  split<;>omega
 have b:∀j,(Xx s o fr j).length<=240000+j*2000000:=λj=>by
  induction j with
  | zero=>show(ZQ fr 0).length<=_;rw[yN];omega
  | succ j ih=>
    have C:=xm (oj o j) (jX s (oj o j))
    have y:=qh (oj o j)
    have h3:=qh (jX s (oj o j))
    have h4:=VM s (oj o j)
    have h5:=J j
    rw[Xx,ze,ze,yN,yN];omega
 have base:LIn [(h.length,Ob.box 30 (qd s a))] h (h++[.box 30 (qd s a),.box 126 [.v (.slice none 0 0)]]) (h.length+1) 126 194 3 (([]:List Pt).map ptC):=
  ⟨⟨_,rfl,zr rfl (zG rfl)⟩,by omega,(λz hz=>by rw[zN] at hz;subst hz;exact⟨by show h.length≠h.length+1;omega,⟨_,_,rfl⟩,by rw[zM rfl];rfl⟩),_,by rw[zK (k:=1) rfl];rfl,.inl ⟨rfl,rfl⟩⟩
 refine zg (YUa _ h _ (h.length+1) [] fr 0 base (by decide) (by omega)) ?_
 rintro _ C ⟨rfl,k1⟩
 rw[List.nil_append] at k1
 simp only[go_sem]
 obtain⟨G,A⟩:∃G,G=AV.fn (.func 116) [] [.ptr (h.length+1) 0]:=⟨_,rfl⟩
 rw[<-A]
 refine zP (by decide) (λm T h'=>∃j:Nat,j<=3/\LIn [(h.length,Ob.box 30 (qd s a))] h h' (h.length+1) 126 194 3 ((Xx s o fr j).map ptC)/\T 3= .ptr h.length 0/\T 12= .ptr (h.length+1) 0/\T 13=G/\T 43= .ag [spv o.1,spv o.2.1,spv o.2.2]/\T 44=i64 j/\m=3 - j) 3
  ⟨0,by omega,k1,by simp only[go_sem],by simp only[go_sem],by simp only[go_sem],by simp only[go_sem],by(simp only[go_sem]<;>rfl),rfl⟩ ?_
 clear k1 base
 rintro m T h' ⟨j,hj,k1,t3,g,i,E,t44,rfl⟩
 simp only[go_sem,t44]
 refine ways (λe=>?_) (λe=>?_)
 ·have U:(j:Int)<3:=of_decide_eq_true e
  have H:j<3:=by omega
  have d:nth [spv o.1,spv o.2.1,spv o.2.2] j=spv (oj o j):=by
   have:j=0∨j=1∨j=2:=by omega
   rcases this with rfl|rfl|rfl<;>rfl
  have I:=J j
  have τ:=b j
  have μ:=b (j+1)
  have P:h'[h.length]? =some (.box 30 (qd s a)):=k1.keep (.head _)
  obtain⟨O,hO⟩:∃O,O=oj o j:=⟨_,rfl⟩
  have Z:Xx s o fr (j+1)=Xx s o fr j++ZQ (jz O (jX s O)) (1+j)++ZQ (jX s O) (4+j):=by rw[hO];rfl
  rw[<-hO] at d I
  simp only[go_sem,t3,i,E,t44,d,U,H,P,A,Nat.mul_one,Int.toNat_natCast,zh]
  refine zg (YSa _ s a (k1.pre.sin k) f _ O (jW _) (by omega)) ?_
  rintro _ y ⟨rfl,rfl⟩
  have hnl:=VM s O
  simp only[go_sem,i,A]
  refine zg (Ka _ _ _ O (jX s O) (jW _) (jW _) (by omega) (by omega)) ?_
  rintro _ y ⟨rfl,rfl⟩
  have w1:IntKind.wrap .i64 (1+(j:Int))=1+(j:Int):=qp (n:=1+(j:Int)) (by unfold Fit;omega)
  have w2:IntKind.wrap .i64 (1+(j:Int)+3)=4+(j:Int):=(qp (n:=1+(j:Int)+3) (by unfold Fit;omega)).trans (by omega)
  have φ:=xm O (jX s O)
  have γ:=qh O
  have ε:=qh (jX s O)
  simp only[go_sem,i,A,w1]
  refine zg (YUa _ h _ (h.length+1) (Xx s o fr j) (jz O (jX s O)) (1+j) k1 (by omega) (by omega)) ?_
  rintro _ y ⟨rfl,k2⟩
  simp only[go_sem,i,A,w1,w2]
  refine zg (YUa _ h _ (h.length+1) _ (jX s O) (4+j) k2 (by rw[ze,yN];omega) (by omega)) ?_
  rintro _ h3 ⟨rfl,k3⟩
  rw[<-Z] at k3
  simp only[go_sem,t44]
  exact⟨3 - (j+1),by omega,j+1,by omega,k3,t3,g,by rw[i,A],E,qm (by omega) rfl,rfl⟩
 ·have χ:¬ (j:Int)<3:=of_decide_eq_false e
  have V:j=3:=by omega
  subst V
  obtain⟨x2,c,F⟩:=k1.at_
  have ξ:=b 3
  have p:=k1.pre
  have η:AV.cells x2=some [x2]:=F.rows.cells
  rcases F with⟨rfl,K⟩|⟨id,st,u1,rfl,M⟩
  ·simp only[go_sem,g,c]
   refine zg (Xua _ _) ?_
   rintro _ y ⟨rfl,e2⟩
   rw[e2]
   simp only[go_sem,g,c]
   obtain⟨L,W,S⟩:=p
   exact⟨_,rfl,.inl ⟨Xx s o fr 3,.refl _,L,W,S,by rw[K];exact λy _=>⟨rfl,λh=>absurd rfl h⟩⟩⟩
  ·simp only[go_sem,g,c]
   refine zg (VAa _ id st _ M (by omega)) ?_
   rintro _ y ⟨rfl,q,q1,q2,rfl⟩
   have α:id≠h.length+1:=λq=>by rw[q,c] at M;cases M
   have X:(h'.set id (.row 194 3 (q.map ptC) st))[h.length+1]? =some (.box 126 [.tl id st]):=by rw[zc α];exact c
   simp only[go_sem,g,X]
   have Q:Pre h (h'.set id (.row 194 3 (q.map ptC) st)):=p.set u1 rfl
   have D:OwnS h (h'.set id (.row 194 3 (q.map ptC) st)) 194 3 (.tl id st) (q.map ptC):= .inr ⟨id,st,u1,rfl,zo (zd.1 M).1⟩
   obtain⟨L,W,S⟩:=Q
   rw[W] at D⊢
   exact⟨_,rfl,.inl ⟨q,q1,L,rfl,S,D.new (zn _)⟩⟩
theorem YVa(h:List Ob)(s:Setup)(a:SA)(k:SIn h s a)(f:SFit s)(b:qv s=true)(x:AV)(l:List Seg)(w:Int)(c:SlOf h x 5 (l.map kG))(d:l.length<32768):
  ACalls Tryz.prog 57 [je s a,x,i64 w] h λr h'=>(∃q:List Pt,q.Perm (wc s l w)/\r= .sl 3 (q.map ptC))/\h'=h:=
 kta (by decide) (λq=>W2a q) (VBa h s a k f b x l w c d)
end Go.Proofs.YtigdlmpjijhpaaaGreat.Ax
namespace Go.Proofs.YtigdlmpjijhpaaaGreat.Ax
open Go Go.Proofs
set_option maxRecDepth 100000
def yo(f:Nat->Int):List AV:=[i64 (f 0),i64 (f 1),i64 (f 2),i64 (f 3),i64 (f 4),i64 (f 5),i64 (f 6)]
theorem kva(f:Nat->Int){k:Nat}(a:k<7)(v:Int):lay (yo f) k [i64 v]=some (yo λj=>if j=k then v else f j):=by
 have:k=0∨k=1∨k=2∨k=3∨k=4∨k=5∨k=6:=by omega
 rcases this with rfl|rfl|rfl|rfl|rfl|rfl|rfl<;>rfl
theorem Xva(f:Nat->Int){k:Nat}(a:k<7):nth (yo f) k=i64 (f k):=by
 have:k=0∨k=1∨k=2∨k=3∨k=4∨k=5∨k=6:=by omega
 rcases this with rfl|rfl|rfl|rfl|rfl|rfl|rfl<;>rfl
theorem zka(f:Nat->Int):cut (yo f) 0 7=some (yo f):=rfl
theorem kwa(f g:Nat->Int):lay (yo f) 0 (yo g)=some (yo g):=rfl
theorem Xwa(f:Nat->Int):(yo f).all AV.one=true:=rfl
theorem Xxa(f:Nat->Int):(yo f).length=7:=rfl
attribute [go_sem] zka kwa Xwa Xxa
def ptS(p:Pt):Spn:=⟨p.from_,p.to_⟩
def wY(q:List Pt)(k:Int):List Spn:=(q.filter λp=>p.kind==k).map ptS
theorem woa(q:List Pt)(k:Int)(p:Pt):wY (q++[p]) k=if p.kind==k then wY q k++[ptS p] else wY q k:=by
 unfold wY
 rw[q8,zy]
 cases h:p.kind==k<;>simp[h]
theorem qYa(q:List Pt)(k:Int):(wY q k).length<=q.length:=by
 unfold wY
 rw[zb]
 exact qo _ q
def Zj(q:List Pt)(k:Int):Int:=jK (qw (wY q k))
theorem YWa{l:List Pt}{i:Nat}(h:i<l.length):(l.map ptC)[i]? =some (ptC l[i]):=by rw[zx,zi h];rfl
theorem wpa{q:List Pt}{n:Nat}(h:n<q.length)(k:Int):wY (q.take (n+1)) k=if(q[n]).kind==k then wY (q.take n) k++[ptS q[n]] else wY (q.take n) k:=by
 rw[show q.take (n+1)=q.take n++[q[n]] from(zI h).symm,woa]
theorem Zk{h0 h':List Ob}{i id:Nat}{ty e:Nat}{rows:List (List AV)}{st:Nat}{o:Ob}{t:TypeId}{cs:List AV}(b:h'[i]? =some (.box t cs))(a:h'[id]? =some (.row ty e rows st)):(h'.set id o)[i]? =some (.box t cs):=by
 have:id≠i:=λq=>by rw[q,b] at a;cases a
 rw[zc this];exact b
set_option maxHeartbeats 1000000 in
theorem VCa(h:List Ob)(x:AV)(q:List Pt)(P:SlOf h x 3 (q.map ptC))(hl:q.length<1048576):
  ACalls Tryz.prog 56 [x] h λr h'=>r= .ag (yo λj=>Zj q j)/\h'=h:=by
 refine zj Tryz.f56 [.cell 2 42] 35 rfl rfl rfl rfl rfl rfl (by decide) (⟨_,_,⟨rfl,rfl⟩,.refl⟩) λB=>?_
 simp only[go_sem]
 refine zP (by decide) (λm T h'=>∃k:Nat,k<=7/\Pre h h'/\h'[h.length]? =some (.box 42 (yo λj=>if j<k then Zj q j else 0))/\T 0=x/\T 2= .ptr h.length 0/\T 7=i64 k/\m=7 - k) 7
  ⟨0,by omega,⟨_,rfl,zG rfl⟩,by rw[zM rfl];rfl,by simp only[go_sem],by simp only[go_sem],by(simp only[go_sem]<;>rfl),rfl⟩ ?_
 rintro m T h' ⟨k,hk,a,c,t0,t2,p,rfl⟩
 simp only[go_sem,p]
 refine ways (λe=>?_) (λe=>?_)
 ·have G:(k:Int)<7:=of_decide_eq_true e
  have u:k<7:=by omega
  have o:=(a.sl P).rows
  simp only[go_sem,t0,p,o,zb]
  refine zP (by decide) (λm T t=>∃n:Nat,n<=q.length/\Pre h t/\t[h.length]? =some (.box 42 (yo λj=>if j<k then Zj q j else 0))/\OwnS h t 143 2 (T 4) ((wY (q.take n) k).map qE)/\T 0=x/\T 2= .ptr h.length 0/\T 3=i64 k/\T 7=i64 k/\T 10=x/\T 11=i64 q.length/\T 12=i64 n/\m=q.length - n) q.length
   ⟨0,by omega,a,c,.inl ⟨by simp only[go_sem],rfl⟩,by simp only[go_sem,t0],by simp only[go_sem,t2],by(simp only[go_sem]<;>rfl),by simp only[go_sem,p],by simp only[go_sem,t0],by(simp only[go_sem]<;>rfl),by(simp only[go_sem]<;>rfl),rfl⟩ ?_
  clear t0 t2 p o c a
  rintro m T t ⟨n,Z,a,c,A,t0,t2,t3,p,t10,l,g,rfl⟩
  simp only[go_sem,l,g]
  refine ways (λN=>?_) (λN=>?_)
  ·have f:=dlt N
   have z:=a.sl P
   have F:=z.at (i:=n) (by simpa using f)
   have o:=z.rows
   have d:=YWa f
   have w:(n:Int)<q.length:=by omega
   have b:=wpa f k
   obtain⟨y,S⟩:∃y,y=q[n]:=⟨_,rfl⟩
   rw[<-S] at d b
   have hA:List.length (ptC y)=3:=rfl
   have R:ptC y=[i64 y.from_,i64 y.to_,i64 y.kind]:=rfl
   rw[R] at d
   have fin:n+1<=q.length:=by omega
   simp only[go_sem,t3,t10,g,F,o,d,w,zb,Int.toNat_natCast,zh]
   refine ways (λv=>?_) (λv=>?_)
   ·rw[v] at b
    simp only[if_true] at b
    rcases A with⟨t4,I⟩|⟨id,st,Q,t4,W⟩
    ·simp only[go_sem,t4,g]
     refine⟨q.length - (n+1),by omega,n+1,fin,a.app (zr rfl (zr rfl (zG rfl))),zf c,.inr ⟨_,_,by have:=a.len;omega,rfl,?_⟩,t0,t2,t3,p,t10,l,qm (by omega) rfl,rfl⟩
     rw[b,zy,I,zK rfl]
     rfl
    ·have H:(((wY (q.take n) k).map qE).length+1)*17<=140737488355328:=by
      have:=qYa (q.take n) k
      rw[qa] at this
      rw[zb];omega
     have J:∀M,(t++M)[id]? =some (.row 143 2 ((wY (q.take n) k).map qE) st):=λM=>zf W
     simp only[go_sem,t4,g,J,H]
     refine⟨q.length - (n+1),by omega,n+1,fin,(a.app (zr rfl (zG rfl))).set Q rfl,Zk (h0:=h) (zf c) (J _),.inr ⟨id,st+1,Q,rfl,?_⟩,t0,t2,t3,p,t10,l,qm (by omega) rfl,rfl⟩
     rw[b,zy]
     exact zq (J _)
   ·have v:(y.kind==(k:Int))=false:=by simpa using v
    rw[v] at b
    simp only[Bool.false_eq_true,if_false] at b
    simp only[go_sem,g]
    exact⟨q.length - (n+1),by omega,n+1,fin,a.app (zG rfl),zf c,by rw[b];exact A.app _,t0,t2,t3,p,t10,l,qm (by omega) rfl,rfl⟩
  ·have K:=xb N
   have E:n=q.length:=by omega
   subst E
   rw[zZ] at A
   have w:=qYa q k
   simp only[go_sem,t3]
   refine zg (ysa _ (T 4) (wY q k) A.rows (by omega)) ?_
   rintro _ X ⟨rfl,V⟩
   rw[V]
   have s:=kva (λj=>if j<k then Zj q j else 0) u (Zj q k)
   have D:(λj:Nat=>if j=k then Zj q k else if j<k then Zj q j else 0)=λj:Nat=>if j<k+1 then Zj q j else 0:=by
    funext j
    by_cases O:j=k
    ·subst O;rw[if_pos rfl,if_pos (by omega)]
    ·rw[if_neg O]
     by_cases t:j<k
     ·rw[if_pos t,if_pos (by omega)]
     ·rw[if_neg t,if_neg (by omega)]
   rw[D] at s
   rw[show jK (qw (wY q k))=Zj q k from rfl]
   simp only[go_sem,t2,t3,p,c,s,G,u,Nat.mul_one,Nat.zero_add,Int.toNat_natCast,zh]
   exact⟨7 - (k+1),by omega,k+1,by omega,a.set (zn _) rfl,zq c,t0,qm (by omega) rfl,rfl⟩
 ·have K:¬ (k:Int)<7:=of_decide_eq_false e
  have C:k=7:=by omega
  subst C
  have c:h'[h.length]? =some (.box 42 (yo λj=>Zj q j)):=c
  simp only[go_sem,t2,c,zka,kwa]
  rw[qM c]
  obtain⟨L,U,Y⟩:=a
  refine⟨.ag (yo λj=>Zj q j),by simp only[go_sem,t2,c,zka],.inr ⟨h,L,U,rfl,rfl,.refl,rfl,rfl⟩⟩
def QZ(n:Int):Int:=min (max n 0) 604800
theorem kxa(n:Int):xw Tryz.prog 135 [i64 n] (i64 (QZ n)):=λh=>by
 refine zj Tryz.f135 [.tmp 2] 6 rfl rfl rfl rfl rfl rfl (by decide) (⟨_,_,⟨rfl,rfl⟩,.refl⟩) λB=>?_
 simp only[go_sem]
 refine zm ?_<;>(simp only[go_sem,QZ,QL,QM]<;>try rfl)
def qaa(n d:Int):Int:=(KL n d).1
theorem W3a(n d:Int):xw Tryz.prog 136 [i64 n,i64 d] (i64 (qaa n d)):=λh=>by
 refine zj Tryz.f136 [.tmp 4] 14 rfl rfl rfl rfl rfl rfl (by decide) (⟨_,_,⟨rfl,rfl⟩,.refl⟩) λB=>?_
 simp only[go_sem]
 refine zg (c70 n d _) ?_
 rintro _ a ⟨rfl,rfl⟩
 simp only[go_sem,Xv]
 refine zm ?_<;>(simp only[go_sem,qaa]<;>try rfl)
def Kd(r k:Int):Int:=wr (r*wr (k+1))
def ZL(s:Setup)(r k:Int):Int:=if k>3 then wr (Kd r (k - 3)+wr (2*s.diff)) else Kd r k
theorem yGa(h:List Ob)(s:Setup)(a:SA)(k:SIn h s a)(r n:Int)(c:n<=3):
  ACalls Tryz.prog 137 [je s a,i64 r,i64 n] h λb h'=>b=i64 (Kd r n)/\h'=h:=by
 have q:decide (n>3)=false:=by rw[decide_eq_false_iff_not];omega
 refine zj Tryz.f137 [.tmp 6] 22 rfl rfl rfl rfl rfl rfl (by decide) (⟨_,_,⟨rfl,rfl⟩,.refl⟩) λB=>?_
 simp only[go_sem,k.ones,q]
 refine zm ?_<;>(simp only[go_sem,Kd]<;>try rfl)
theorem YXa(h:List Ob)(s:Setup)(a:SA)(k:SIn h s a)(r n:Int)(d:n<=6):
  ACalls Tryz.prog 137 [je s a,i64 r,i64 n] h λc h'=>c=i64 (ZL s r n)/\h'=h:=by
 by_cases b:n>3
 ·have q:decide (n>3)=true:=decide_eq_true b
  have w:IntKind.wrap .i64 (n - 3)=n - 3:=qp (n:=n - 3) (by unfold Fit;omega)
  refine zj Tryz.f137 [.tmp 6] 22 rfl rfl rfl rfl rfl rfl (by decide) (⟨_,_,⟨rfl,rfl⟩,.refl⟩) λB=>?_
  simp only[go_sem,k.ones,q]
  refine zV rfl [] 0 [(1,0,[]),(2,0,[]),(3,0,[]),(5,0,[]),(0,0,[]),(6,0,[]),(7,0,[]),(4,0,[6]),(8,0,[]),(9,0,[])] rfl (by decide) (by decide) ?_
  simp only[go_sem,k.ones,w]
  refine zg (yGa _ s a (k.app _) r (n - 3) (by omega)) ?_
  rintro _ e ⟨rfl,rfl⟩
  simp only[go_sem,k.ones,w]
  refine zm ?_<;>(simp only[go_sem,ZL,b]<;>try rfl)
 ·refine(yGa h s a k r n (by omega)).mono ?_
  rintro c h' ⟨rfl,rfl⟩
  exact⟨by unfold ZL;rw[if_neg b],rfl⟩
def upI(n d:Int):Int × Int:=if d<=0 then(0,20) else if(kw n d).2>0 then(wr ((kw n d).1+1),0) else((kw n d).1,0)
theorem cUp(n d:Int):xw Tryz.prog 139 [i64 n,i64 d] (Xv (upI n d)):=λh=>by
 refine zj Tryz.f139 [.tmp 4,.tmp 5] 21 rfl rfl rfl rfl rfl rfl (by decide) (⟨_,_,⟨rfl,rfl⟩,.refl⟩) λB=>?_
 simp only[go_sem]
 refine ways (λe=>?_) (λe=>?_)
 ·have a:d<=0:=of_decide_eq_true e
  simp only[go_sem]
  refine zm ?_<;>(simp only[go_sem,upI,a,Xv]<;>try rfl)
 ·have a:¬ d<=0:=of_decide_eq_false e
  simp only[go_sem]
  refine zg (c97 n d (by omega) _) ?_
  rintro _ f ⟨rfl,rfl⟩
  simp only[go_sem,Xv]
  refine ways (λc=>?_) (λc=>?_)
  ·have b:(kw n d).2>0:=of_decide_eq_true c
   simp only[go_sem]
   refine zm ?_<;>(simp only[go_sem,upI,a,b,Xv]<;>try rfl)
  ·have b:¬ (kw n d).2>0:=of_decide_eq_false c
   simp only[go_sem]
   refine zm ?_<;>(simp only[go_sem,upI,a,b,Xv]<;>try rfl)
def Ke:Int->List Int->Int × Int
 | a,[]=>(a,0)
 | a,x::r=>if(decide (x>0)==decide (wr (a+x)>a)) || x==0 then Ke (wr (a+x)) r else(0,10)
theorem xrb(h:List Ob)(x:AV)(l:List Int)(p:SlOf h x 1 (l.map qB))(t:l.length<1048576):
  ACalls Tryz.prog 138 [x] h λr h'=>r=Xv (Ke 0 l)/\h'=h:=by
 refine zj Tryz.f138 [.tmp 2,.tmp 3] 30 rfl rfl rfl rfl rfl rfl (by decide) (⟨_,_,⟨rfl,rfl⟩,.refl⟩) λB=>?_
 simp only[go_sem]
 refine YZ (by decide) ?_
 simp only[go_sem,p.rows,zb]
 refine zP (by decide) (λm T h'=>∃(i:Nat) (k:Int),i<=l.length/\h'=h/\Ke 0 l=Ke k (l.drop i)/\T 4=i64 k/\T 8=x/\T 9=i64 l.length/\T 10=i64 i/\m=l.length - i) l.length
  ⟨0,0,by omega,rfl,rfl,by(simp only[go_sem]<;>rfl),by simp only[go_sem],by(simp only[go_sem]<;>rfl),by(simp only[go_sem]<;>rfl),rfl⟩ ?_
 rintro m T h' ⟨i,k,hi,rfl,a,t4,t8,t9,t10,rfl⟩
 simp only[go_sem,t9,t10]
 refine ways (λe=>?_) (λe=>?_)
 ·have d:=dlt e
  have c:=Xk d
  have n:=p.at (i:=i) (by rw[zb];exact d)
  have g:=p.rows
  have j:(i:Int)<l.length:=by omega
  rw[qI d,Ke] at a
  obtain⟨z,q⟩:∃z,z=l[i]:=⟨_,rfl⟩
  rw[<-q] at c a
  simp only[go_sem,t4,t8,t10,n,g,c,j,zb,Int.toNat_natCast,zh]
  obtain⟨b,f⟩:∃b:Bool,b=(decide (z>0)==decide (wr (k+z)>k)):=⟨_,rfl⟩
  rw[<-f] at a
  rw[show(decide (z>0)==decide (IntKind.i64.wrap (k+z)>k))=b from f.symm]
  cases b
  ·cases h0:z==0
   ·rw[h0] at a
    simp only[Bool.or_self,Bool.false_eq_true,if_false] at a
    simp only[go_sem,h0,qD, <-f]
    refine zm ?_<;>(simp only[go_sem,a,Xv]<;>try rfl)
   ·rw[h0] at a
    simp only[Bool.or_true,if_true] at a
    simp only[go_sem,h0,qD, <-f,t10]
    exact⟨l.length - (i+1),by omega,i+1,_,by omega,a,rfl,t8,t9,qm (by omega) rfl,rfl⟩
  ·simp only[Bool.true_or,if_true] at a
   simp only[go_sem,qD, <-f,t10]
   exact⟨l.length - (i+1),by omega,i+1,_,by omega,a,rfl,t8,t9,qm (by omega) rfl,rfl⟩
 ·have s:=xb e
  have o:i=l.length:=by omega
  subst o
  rw[List.drop_length,Ke] at a
  simp only[go_sem,t4]
  refine zm ?_<;>(simp only[go_sem,a,Xv]<;>try rfl)
