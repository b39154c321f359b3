import Derived.Test.YtigdlmpjijhpaaaGreatKA
import Derived.Test.YtigdlmpjijhpaaaGreatK35
import Derived.Test.YtigdlmpjijhpaaaGreatK23
import Derived.Test.YtigdlmpjijhpaaaGreatK34
import Derived.Test.YtigdlmpjijhpaaaGreatK22
import Derived.Test.YtigdlmpjijhpaaaGreatK36
set_option linter.all false
namespace Go.Proofs.YtigdlmpjijhpaaaGreat.Ax
open Go Go.Proofs
set_option maxRecDepth 100000
theorem zsa(h:List Ob)(id:Nat)(x y:AV)(a b:List Spn)(hi:h[id]? =some (.row 55 1 [[x],[y]] 0))(e:SlOf h x 2 (a.map qJ))(f:SlOf h y 2 (b.map qJ))(i:a.length<268435456)(g:b.length<268435456):
  ACalls Tryz.prog 188 [.tl id 0] h λr h'=>r=spv (a++b)/\h'=h:=by
 have d:Zo [(x,a),(y,b)]=a++b:=by simp[Zo]
 have q:=xk (by decide) (Je _) (XAa h (.tl id 0) [(x,a),(y,b)] ⟨by rw[q8,hi];rfl,λ_=>by rw[jO,hi];rfl⟩
  (λq c=>by rcases zy.1 c with rfl|c;exact e;rw[zW] at c;subst c;exact f) (by show 2<1048576;decide) (by rw[d,zg];omega))
 rw[d] at q
 exact q
theorem XNa(h:List Ob)(x:AV)(l:List Seg)(a:SlOf h x 5 (l.map ve))(b:l.length<1048576):
  ACalls Tryz.prog 23 [x] h λr h'=>r=spv (qV l)/\h'=h:=xk (by decide) (Je _) (c31 h x l a b)
theorem jnb(h:List Ob)(x:AV)(l:List Seg)(k:Int)(a:SlOf h x 5 (l.map ve))(b:l.length<1048576):
  ACalls Tryz.prog 243 [x,i64 k] h λr h'=>r=spv (vi l k)/\h'=h:=xk (by decide) (Je _) (c32 h x l k a b)
theorem zta(l:List Spn)(n:Int):(J5 l n).length<=2*l.length+1:=by
 unfold J5
 split
 ·simp
 ·have b:=xx l (qP l (jQ (qx l) - min n 32054400))
  have a:=qm l
  have d:=qm (qP l (jQ (qx l) - min n 32054400))
  have c:(qP l (jQ (qx l) - min n 32054400)).length<=(qx l).length:=xP _ _
  omega
def ZM(s:Setup)(c b:List Spn):List Spn:=if s.autoAfter<=jQ (qx c)/\jQ (qx b)<s.autoBreak then J5 (jD c b) (s.autoBreak - jQ (qx b)) else []
def wC(s:Setup)(c b:List Spn):List Spn:=qx (jD b (qP b s.paidBreak)++ZM s c b)
theorem Ks(s:Setup)(c b:List Spn):(wC s c b).length<=2*c.length+4*b.length+4:=by
 have j:=xx b (qP b s.paidBreak)
 have e:=qm (qP b s.paidBreak)
 have i:=qm b
 have g:(qP b s.paidBreak).length<=(qx b).length:=xP _ _
 have a:(ZM s c b).length<=2*(jD c b).length+1:=by
  unfold ZM
  split
  ·exact zta _ _
  ·simp
 have h:=xx c b
 have d:=qm c
 have f:=qm (jD b (qP b s.paidBreak)++ZM s c b)
 rw[zg] at f
 unfold wC
 omega
theorem V0a(h:List Ob)(s:Setup)(a:SA)(k:SIn h s a)(t:Times s)(x y:AV)(c b:List Spn)(u:SlOf h x 2 (c.map qJ))(j:SlOf h y 2 (b.map qJ))(J:c.length<65536)(L:b.length<65536):
  ACalls Tryz.prog 242 [jg s a,x,y] h λr h'=>r=spv (wC s c b)/\h'=h:=by
 refine zj Tryz.f242 [.tmp 6] 41 rfl rfl rfl rfl rfl rfl (by decide) (⟨_,_,⟨rfl,rfl⟩,.refl⟩) λB=>?_
 simp only[go_sem,k.ones]
 have z:∀M,(h++[Ob.box 30 (qg s a)]++M)[h.length]? =some (.box 30 (qg s a)):=λM=>by rw[zr,zK rfl];rfl
 refine zh (jVa _ y b _ (j.app _) (by omega) (by have:=t.paidBreak;unfold Fit;omega)) ?_
 rintro _ e ⟨rfl,rfl⟩
 simp only[go_sem]
 refine zh (Kq _ y _ b _ (j.app _) (j5 _) (by omega) (by have:=xP (qx b) s.paidBreak;have:=qm b;unfold qP;omega)) ?_
 rintro _ e ⟨rfl,rfl⟩
 simp only[go_sem]
 refine zh (yza _ y b (j.app _) (by omega)) ?_
 rintro _ e ⟨rfl,rfl⟩
 simp only[go_sem]
 refine zQ rfl [] 0 [(0,0,[]),(2,0,[]),(3,0,[]),(1,0,[3]),(4,0,[]),(5,0,[]),(6,0,[]),(7,0,[]),(8,0,[]),(9,0,[]),(10,0,[])] rfl (by decide) (by decide) ?_
 simp only[go_sem]
 refine zh (yza _ x c (u.app _) (by omega)) ?_
 rintro _ e ⟨rfl,rfl⟩
 have K:=xx b (qP b s.paidBreak)
 have o:=xP (qx b) s.paidBreak
 have E:=qm (qP b s.paidBreak)
 have F:=qm b
 have v:(qP b s.paidBreak).length<=(qx b).length:=o
 cases g:decide (jQ (qx c)≥s.autoAfter)
 ·have d:ZM s c b=[]:=by unfold ZM;rw[if_neg];exact λq=>(of_decide_eq_false g) q.1
  have f:wC s c b=qx (jD b (qP b s.paidBreak)):=by unfold wC;rw[d,zM]
  simp only[go_sem,g,qv]
  refine zh (J8 _ _ (jD b (qP b s.paidBreak)) (j5 _) (by omega)) ?_
  rintro _ e ⟨rfl,rfl⟩
  rw[<-f]
  simp only[go_sem]
  exact⟨_,by simp only[go_sem],.inr ⟨h,_,rfl,rfl,J7 _,.refl,rfl,rfl⟩⟩
 ·have m:s.autoAfter<=jQ (qx c):=of_decide_eq_true g
  cases i:decide (jQ (qx b)<s.autoBreak)
  ·have d:ZM s c b=[]:=by unfold ZM;rw[if_neg];exact λq=>(of_decide_eq_false i) q.2
   have f:wC s c b=qx (jD b (qP b s.paidBreak)):=by unfold wC;rw[d,zM]
   simp only[go_sem,g,i,qv]
   refine zh (J8 _ _ (jD b (qP b s.paidBreak)) (j5 _) (by omega)) ?_
   rintro _ e ⟨rfl,rfl⟩
   rw[<-f]
   simp only[go_sem]
   exact⟨_,by simp only[go_sem],.inr ⟨h,_,rfl,rfl,J7 _,.refl,rfl,rfl⟩⟩
  ·have p:jQ (qx b)<s.autoBreak:=of_decide_eq_true i
   have d:ZM s c b=J5 (jD c b) (s.autoBreak - jQ (qx b)):=by unfold ZM;rw[if_pos ⟨m,p⟩]
   simp only[go_sem,g,i,qv]
   refine zQ rfl [.res] 1 [(0,0,[]),(1,0,[]),(2,0,[]),(4,0,[]),(6,0,[]),(5,0,[]),(7,0,[]),(3,0,[5]),(8,0,[]),(9,0,[]),(10,0,[]),(11,0,[])] rfl (by decide) (by decide) ?_
   simp only[go_sem]
   refine zh (Kq _ x y c b (u.app _) (j.app _) (by omega) (by omega)) ?_
   rintro _ e ⟨rfl,rfl⟩
   have I:=xx c b
   have D:=qm c
   have H:=zba (l:=qx b) (λs A=>kX s A)
   have w:=t.autoBreak
   have G:IntKind.wrap .i64 (s.autoBreak - jQ (qx b))=s.autoBreak - jQ (qx b):=qq (n:=s.autoBreak - jQ (qx b)) (by unfold Fit;omega)
   simp only[go_sem,G]
   refine zh (jjb _ _ (jD c b) (s.autoBreak - jQ (qx b)) (j5 _) (by omega) (by unfold Fit;omega)) ?_
   rintro _ e ⟨rfl,rfl⟩
   rw[<-d]
   have C:(ZM s c b).length<1048576:=by
    have:=zta (jD c b) (s.autoBreak - jQ (qx b))
    rw[d];omega
   simp only[go_sem]
   refine zh (zsa _ (h.length+1) _ _ (jD b (qP b s.paidBreak)) (ZM s c b) (by rw[zG (k:=1) rfl];rfl) (j5 _) (j5 _) (by omega) (by omega)) ?_
   rintro _ e ⟨rfl,rfl⟩
   simp only[go_sem]
   refine zh (J8 _ _ (jD b (qP b s.paidBreak)++ZM s c b) (j5 _) (by rw[zg];omega)) ?_
   rintro _ e ⟨rfl,rfl⟩
   rw[show qx (jD b (qP b s.paidBreak)++ZM s c b)=wC s c b from rfl]
   simp only[go_sem]
   exact⟨_,by simp only[go_sem],.inr ⟨h,_,rfl,rfl,J7 _,.refl,rfl,rfl⟩⟩
theorem yJa{n:Nat}(a b:List Spn):(AV.tup [spv a,spv b]).lt n=true:=by
 simp only[AV.lt,qy,J7,Bool.and_self]
theorem V1a{n:Nat}(a b c:List Spn):(AV.tup [spv a,spv b,spv c]).lt n=true:=by
 simp only[AV.lt,qy,J7,Bool.and_self]
def xT(s:Setup)(l:List Seg)(d:Int):List Spn:=wC s (xl (qV l) d) (xl (vi l 3) d)
def jX(s:Setup)(l:List Seg)(d:Int):List Spn:=jD (xl (qV l) d) (xT s l d)
theorem Zt(l:List Seg):(qV l).length<=l.length:=by
 have:=qm (l.map spS)
 rw[zb] at this
 exact this
theorem Vi(l:List Seg)(k:Int):(vi l k).length<=l.length:=by
 have a:=qm ((l.filter λg=>g.kind==k).map spS)
 have b:=qh (λg:Seg=>g.kind==k) l
 rw[zb] at a
 unfold vi;omega
theorem QG(l:List Spn)(d:Int):(xl l d).length<=l.length+1:=by
 have b:=QD l d 86400
 have a:=qm l
 unfold xl;omega
theorem XF(s:Setup)(l:List Seg)(d:Int):(xT s l d).length<=6*l.length+10:=by
 have f:=Ks s (xl (qV l) d) (xl (vi l 3) d)
 have a:=QG (qV l) d
 have c:=QG (vi l 3) d
 have b:=Zt l
 have e:=Vi l 3
 unfold xT;omega
theorem WE(s:Setup)(l:List Seg)(d:Int):(jX s l d).length<=7*l.length+12:=by
 have f:=xx (xl (qV l) d) (xT s l d)
 have a:=QG (qV l) d
 have c:=XF s l d
 have b:=Zt l
 have e:=qm (xl (qV l) d)
 have g:=qm (xT s l d)
 unfold jX;omega
theorem Qpa(h:List Ob)(s:Setup)(a:SA)(k:SIn h s a)(f:SFit s)(c:z6 s=true)(x:AV)(l:List Seg)(d:Int)(e:SlOf h x 5 (l.map ve))(n:l.length<32768):
  ACalls Tryz.prog 184 [jg s a,x,i64 d] h λr h'=>r= .tup [spv (jX s l d),spv (xT s l d)]/\h'=h:=by
 have b:=Zt l
 have g:=Vi l 3
 have j:=QG (qV l) d
 have i:=QG (vi l 3) d
 have m:=XF s l d
 refine zj Tryz.f184 [.tmp 6,.tmp 7] 28 rfl rfl rfl rfl rfl rfl (by decide) (⟨_,_,⟨rfl,rfl⟩,.refl⟩) λB=>?_
 simp only[go_sem,k.ones]
 refine zh (c16 _ s a (k.app _) f) ?_
 rintro _ b ⟨rfl,rfl⟩
 simp only[go_sem,c,qv,Bool.not_true]
 refine zh (XNa _ x l (e.app _) (by omega)) ?_
 rintro _ b ⟨rfl,rfl⟩
 simp only[go_sem]
 refine zh (wka _ _ (qV l) d (j5 _) (by omega)) ?_
 rintro _ b ⟨rfl,rfl⟩
 simp only[go_sem]
 refine zQ rfl [] 0 [(1,0,[]),(2,0,[]),(4,0,[]),(0,0,[]),(3,0,[0]),(5,0,[0]),(6,0,[]),(7,0,[])] rfl (by decide) (by decide) ?_
 simp only[go_sem,k.ones]
 refine zh (jnb _ x l 3 (e.app _) (by omega)) ?_
 rintro _ b ⟨rfl,rfl⟩
 simp only[go_sem]
 refine zh (wka _ _ (vi l 3) d (j5 _) (by omega)) ?_
 rintro _ b ⟨rfl,rfl⟩
 simp only[go_sem]
 refine zh (V0a _ s a (k.app _) (VX c) _ _ (xl (qV l) d) (xl (vi l 3) d) (j5 _) (j5 _) (by omega) (by omega)) ?_
 rintro _ b ⟨rfl,rfl⟩
 rw[show wC s (xl (qV l) d) (xl (vi l 3) d)=xT s l d from rfl]
 simp only[go_sem]
 refine zh (Kq _ _ _ (xl (qV l) d) (xT s l d) (j5 _) (j5 _) (by omega) (by omega)) ?_
 rintro _ b ⟨rfl,rfl⟩
 rw[show jD (xl (qV l) d) (xT s l d)=jX s l d from rfl]
 simp only[go_sem]
 exact⟨_,by simp only[go_sem],.inr ⟨h,_,rfl,rfl,yJa _ _,.refl,rfl,rfl⟩⟩
structure L2 (F:List (Nat × Ob)) (h0 h:List Ob) (i j bty ty e:Nat) (r1 r2:List (List AV)):Prop where
 pre:Pre h0 h
 li:h0.length<=i
 lj:h0.length<=j
 ne:i≠j
 kept:∀z∈F,z.1≠i/\z.1≠j/\(∃t cs,z.2= .box t cs)/\h[z.1]? =some z.2
 at_:∃x y,h[i]? =some (.box bty [x])/\h[j]? =some (.box bty [y])/\OwnS h0 h ty e x r1/\OwnS h0 h ty e y r2/\∀a s b t,x= .tl a s->y= .tl b t->a≠b
def BoxK(i j:Nat)(h m:List Ob):Prop:=∀(z:Nat) (t:TypeId) (cs:List AV),z≠i->z≠j->h[z]? =some (.box t cs)->m[z]? =some (.box t cs)
theorem BoxK.app{i j:Nat}{h M:List Ob}:BoxK i j h (h++M):=λz t cs _ _ q=>ze q
theorem BoxK.trans{i j:Nat}{a b c:List Ob}(h:BoxK i j a b)(k:BoxK i j b c):BoxK i j a c:=λz t cs hi d q=>k z t cs hi d (h z t cs hi d q)
theorem BoxK.setR{i j id:Nat}{a:List Ob}{o:Ob}{ty e:Nat}{rows:List (List AV)}{st:Nat}(hi:a[id]? =some (.row ty e rows st)):BoxK i j a (a.set id o):=λz t cs _ _ q=>by
 have:id≠z:=λe=>by rw[e,q] at hi;cases hi
 rw[zc this];exact q
theorem OwnS.setB{h0 h:List Ob}{ty e:Nat}{x:AV}{rows:List (List AV)}(k:OwnS h0 h ty e x rows){i:Nat}{o:Ob}{t:TypeId}{cs:List AV}(hi:h[i]? =some (.box t cs)):OwnS h0 (h.set i o) ty e x rows:=by
 rcases k with⟨rfl,c⟩|⟨id,st,b,rfl,a⟩
 ·exact .inl ⟨rfl,c⟩
 ·refine .inr ⟨id,st,b,rfl,?_⟩
  have:i≠id:=λe=>by rw[e,a] at hi;cases hi
  rw[zc this];exact a
theorem L2.fin{F:List (Nat × Ob)}{h0 h m:List Ob}{i j bty ty e:Nat}{A B f d:List (List AV)}(k:L2 F h0 h i j bty ty e A B)(w:Pre h0 m)(G:BoxK i j h m){x' y':AV}(hi:∃x,m[i]? =some (.box bty [x]))(C:∃x,m[j]? =some (.box bty [x]))
  (u:OwnS h0 m ty e x' f) (D:OwnS h0 m ty e y' d) (g:∀a s b t,x'= .tl a s->y'= .tl b t->a≠b):L2 F h0 ((m.set i (.box bty [x'])).set j (.box bty [y'])) i j bty ty e f d:=by
 obtain⟨x,l⟩:=hi
 obtain⟨y,E⟩:=C
 have n:(m.set i (.box bty [x']))[i]? =some (.box bty [x']):=zo (zd.1 l).1
 have c:(m.set i (.box bty [x']))[j]? =some (.box bty [y]):=by rw[zc k.ne];exact E
 refine⟨(w.set k.li rfl).set k.lj rfl,k.li,k.lj,k.ne,λz v=>?_,x',y',?_,zo (zd.1 c).1,(u.setB l).setB c,(D.setB l).setB c,g⟩
 ·obtain⟨p,o,⟨t,cs,r⟩,q⟩:=k.kept z v
  refine⟨p,o,⟨t,cs,r⟩,?_⟩
  rw[r] at q⊢
  rw[zc (Ne.symm o),zc (Ne.symm p)]
  exact G _ _ _ p o q
 ·rw[zc k.ne.symm];exact n
theorem L2.any{F:List (Nat × Ob)}{h0 h:List Ob}{i j bty ty e:Nat}{r o:List (List AV)}(k:L2 F h0 h i j bty ty e r o)(d c:List (List AV)):∃h',L2 F h0 h' i j bty ty e d c/\ResK h h':=by
 obtain⟨x,y,l,n,_⟩:=k.at_
 have p:=k.pre.len
 have q:=k.fin (m:=h++[.row ty e d 0,.row ty e c 0]) (k.pre.app (zl rfl (zD rfl))) .app (x':= .tl h.length 0) (y':= .tl (h.length+1) 0) ⟨x,ze l⟩ ⟨y,ze n⟩
  (.inr ⟨_,_,p,rfl,by rw[zK rfl];rfl⟩) (.inr ⟨_,_,by omega,rfl,by rw[zG (k:=1) rfl];rfl⟩) (λa s b t g f=>by injection g with g;injection f with f;omega)
 exact⟨_,q,k.pre.resK q.pre⟩
theorem zlb(F:List (Nat × Ob))(h0 h:List Ob)(i j u v:Nat)(s:Setup)(a:SA)(x:AV)(l:List Seg)(p q:List Spn)(d:Int)(k:L2 F h0 h i j 55 143 2 (p.map qJ) (q.map qJ))(ks:SIn h s a)(f:SFit s)(X:z6 s=true)
  (hu:(u,Ob.box 30 (qg s a))∈F) (hv:(v,Ob.box 51 [x])∈F) (hx:SlOf h x 5 (l.map ve)) (N:l.length<32768) (hp:p.length<4294967296) (hq:q.length<4294967296):
  ACalls Tryz.prog 183 [i64 d,.ptr u 0,.ptr v 0,.ptr i 0,.ptr j 0] h λr h'=>r= .tup []/\L2 F h0 h' i j 55 143 2 ((p++jX s l d).map qJ) ((q++xT s l d).map qJ):=by
 have hex:∃r h',(r=AV.tup []/\L2 F h0 h' i j 55 143 2 ((p++jX s l d).map qJ) ((q++xT s l d).map qJ))/\ResK h h':=by
  obtain⟨h',q1,q2⟩:=k.any ((p++jX s l d).map qJ) ((q++xT s l d).map qJ)
  exact⟨_,h',⟨rfl,q1⟩,q2⟩
 have β:=(k.kept _ hu).2.2.2
 have V:=(k.kept _ hv).2.2.2
 obtain⟨y,z,n,m,oy,Z,α⟩:=k.at_
 have Y:=hx.cells
 have ν:=WE s l d
 have σ:=XF s l d
 have G:=jXa (jX s l d)
 have H:=jXa (xT s l d)
 have c1:(p.length+(jX s l d).length)*17<=140737488355328:=by omega
 have c2:(q.length+(xT s l d).length)*17<=140737488355328:=by omega
 have c3:(jX s l d).length*17<=140737488355328:=by omega
 have c4:(xT s l d).length*17<=140737488355328:=by omega
 refine zj Tryz.f183 [] 21 rfl rfl rfl rfl rfl rfl (by decide) (hex) λB=>?_
 simp only[go_sem,β,V,ks.ones,Y]
 refine zh (Qpa h s a ks f X x l d hx N) ?_
 rintro _ E ⟨rfl,rfl⟩
 simp only[go_sem]
 refine zQ rfl [] 0 [(1,0,[]),(4,0,[]),(0,0,[]),(3,0,[]),(2,0,[3]),(5,0,[]),(6,0,[]),(7,0,[])] rfl (by decide) (by decide) ?_
 have c:∀M,(E++M)[i]? =some (.box 55 [y]):=λM=>ze n
 have e:∀M,(E++M)[j]? =some (.box 55 [z]):=λM=>ze m
 have μ:=oy.rows.cells
 have ξ:=Z.rows.cells
 have Q:i≠j:=k.ne
 have C:j≠i:=k.ne.symm
 have N:=k.pre.len
 have hi:i<E.length:=(zd.1 n).1
 have hj:j<E.length:=(zd.1 m).1
 rcases oy with⟨rfl,S⟩|⟨ia,sa,R,rfl,A⟩
 ·have W:p=[]:=by simpa using S
  subst W
  rcases Z with⟨rfl,I⟩|⟨ib,U,v1,rfl,v3⟩
  ·have J:q=[]:=by simpa using I
   subst J
   simp only[go_sem,n,m,c,e,G,H,c3,c4,zb,zc,Q,C,ne_eq,not_false_eq_true]
   exact⟨_,rfl,.inl ⟨rfl,k.fin (k.pre.app (zl rfl (zD rfl))) .app ⟨_,c _⟩ ⟨_,e _⟩ (.inr ⟨_,_,N,rfl,by rw[zK rfl];rfl⟩) (.inr ⟨_,_,by omega,rfl,by rw[zG (k:=1) rfl];rfl⟩) (λa s b t g w=>by injection g with g;injection w with w;omega)⟩⟩
  ·have D:∀M,(E++M)[ib]? =some (.row 143 2 (q.map qJ) U):=λM=>ze v3
   have n1:ib≠i:=λq=>by rw[q,n] at v3;cases v3
   have n2:ib≠j:=λq=>by rw[q,m] at v3;cases v3
   have T:=(zd.1 v3).1
   simp only[go_sem,n,m,c,e,G,H,c2,c3,D,v3,zb,zc,Q,C,n1,n2,ne_eq,not_false_eq_true]
   refine⟨_,rfl,.inl ⟨rfl,k.fin ((k.pre.app (zD rfl)).set v1 rfl) (BoxK.app.trans (.setR (D _))) ⟨_,(zc n1).trans (c _)⟩ ⟨_,(zc n2).trans (e _)⟩ (.inr ⟨_,_,N,rfl,?_⟩) (.inr ⟨_,_,v1,rfl,?_⟩) (λa s b t g w=>by injection g with g;injection w with w;omega)⟩⟩
   ·rw[zc (by omega),zK rfl];rfl
   ·rw[zo (by rw[zg];omega), <-zw]
 ·have O:∀M,(E++M)[ia]? =some (.row 143 2 (p.map qJ) sa):=λM=>ze A
  have n3:ia≠i:=λq=>by rw[q,n] at A;cases A
  have n4:ia≠j:=λq=>by rw[q,m] at A;cases A
  have K:=(zd.1 A).1
  rcases Z with⟨rfl,I⟩|⟨ib,U,v1,rfl,v3⟩
  ·have J:q=[]:=by simpa using I
   subst J
   have L:∀o M,(E.set ia o++M)[i]? =some (.box 55 [.tl ia sa]):=λo M=>ze ((zc n3).trans n)
   have P:∀o M,(E.set ia o++M)[j]? =some (.box 55 [.v (.slice none 0 0)]):=λo M=>ze ((zc n4).trans m)
   simp only[go_sem,n,m,c,e,L,P,G,H,c1,c4,O,A,zb,zc,Q,C,n3,n4,ne_eq,not_false_eq_true]
   refine⟨_,rfl,.inl ⟨rfl,k.fin ((k.pre.set R rfl).app (zD rfl)) (BoxK.trans (.setR A) .app) ⟨_,L _ _⟩ ⟨_,P _ _⟩ (.inr ⟨_,_,R,rfl,?_⟩) (.inr ⟨_,_,N,rfl,?_⟩) (λa s b t g w=>by injection g with g;injection w with w;omega)⟩⟩
   ·refine ze ?_
    rw[zo K, <-zw]
   ·rw[zK (by rw[zJ])];rfl
  ·have D:∀M,(E++M)[ib]? =some (.row 143 2 (q.map qJ) U):=λM=>ze v3
   have n1:ib≠i:=λq=>by rw[q,n] at v3;cases v3
   have n2:ib≠j:=λq=>by rw[q,m] at v3;cases v3
   have n5:ia≠ib:=α _ _ _ _ rfl rfl
   have T:=(zd.1 v3).1
   simp only[go_sem,n,m,c,e,G,H,c1,c2,O,D,A,v3,zb,zc,Q,C,n1,n2,n3,n4,n5,ne_eq,not_false_eq_true]
   refine⟨_,rfl,.inl ⟨rfl,k.fin ((k.pre.set R rfl).set v1 rfl) (BoxK.trans (.setR A) (.setR ((zc n5).trans v3))) ⟨_,(zc n1).trans ((zc n3).trans n)⟩ ⟨_,(zc n2).trans ((zc n4).trans m)⟩ (.inr ⟨_,_,R,rfl,?_⟩) (.inr ⟨_,_,v1,rfl,?_⟩) (λa s b t g w=>by injection g with g;injection w with w;omega)⟩⟩
   ·rw[zc n5.symm,zo K, <-zw]
   ·rw[zo (by rw[zJ];omega), <-zw]
def yf(s:Setup)(l:List Seg):List Spn:=qx ((qR (qV l)).flatMap (jX s l))
def vY(s:Setup)(l:List Seg):List Spn:=qx ((qR (qV l)).flatMap (xT s l))
theorem zua{f:Int->List Spn}{m:Nat}(a:∀d,(f d).length<=m):∀l:List Int,(l.flatMap f).length<=m*l.length
 | []=>by simp
 | d::l=>by
   have c:=a d
   have b:=zua a l
   rw[List.flatMap_cons,zg,List.length_cons,Nat.mul_succ];omega
theorem XG{f:Int->List Spn}{l:List Int}{n:Nat}(h:n<l.length):(l.take (n+1)).flatMap f=(l.take n).flatMap f++f l[n]:=by
 rw[<-zE h,List.flatMap_append];simp
theorem job(h:List Ob)(s:Setup)(a:SA)(k:SIn h s a)(f:SFit s)(Q:z6 s=true)(x:AV)(l:List Seg)(H:SlOf h x 5 (l.map ve))(hl:l.length<32768):
  ACalls Tryz.prog 114 [jg s a,x] h λr h'=>r= .tup [spv (yf s l),spv (vY s l)]/\h'=h:=by
 have S:=H.cells
 have U:=H.one
 have η:=Zt l
 refine zj Tryz.f114 [.cell 4 55,.cell 5 55] 29 rfl rfl rfl rfl rfl rfl (by decide) (⟨_,_,⟨rfl,rfl⟩,.refl⟩) λB=>?_
 simp only[go_sem,k.ones,U,S]
 refine zh (XNa _ x l (H.app _) (by omega)) ?_
 rintro _ h1 ⟨rfl,rfl⟩
 simp only[go_sem]
 refine zh (Xqa _ _ (qV l) (j5 _) (by omega)) ?_
 rintro _ h1 ⟨rfl,rfl⟩
 have P:=yV (qV l)
 have d:yf s l=qx (((qR (qV l)).take (qR (qV l)).length).flatMap (jX s l)):=by rw[zV];rfl
 have i:vY s l=qx (((qR (qV l)).take (qR (qV l)).length).flatMap (xT s l)):=by rw[zV];rfl
 obtain⟨v,hv⟩:∃v,v=qR (qV l):=⟨_,rfl⟩
 rw[<-hv] at P d i⊢
 simp only[go_sem,zb]
 obtain⟨F,V⟩:∃F,F=[(h.length,Ob.box 30 (qg s a)),(h.length+1,Ob.box 51 [x])]:=⟨_,rfl⟩
 have hu:(h.length,Ob.box 30 (qg s a))∈F:=by rw[V];simp
 have hw:(h.length+1,Ob.box 51 [x])∈F:=by rw[V];simp
 obtain⟨G,R⟩:∃G,G=AV.fn (.func 183) [] [.ptr h.length 0,.ptr (h.length+1) 0,.ptr (h.length+2) 0,.ptr (h.length+3) 0]:=⟨_,rfl⟩
 rw[<-R]
 refine zO (by decide) (λm T h'=>∃n:Nat,n<=v.length/\L2 F h h' (h.length+2) (h.length+3) 55 143 2 (((v.take n).flatMap (jX s l)).map qJ) (((v.take n).flatMap (xT s l)).map qJ)/\T 4= .ptr (h.length+2) 0/\T 5= .ptr (h.length+3) 0/\T 6= .sl 1 (v.map qz)/\T 7=G/\T 14=i64 v.length/\T 15=i64 n/\m=v.length - n) v.length
  ⟨0,by omega,⟨⟨_,rfl,zl rfl (zl rfl (zl rfl (zD rfl)))⟩,by omega,by omega,by omega,(λz c=>by
   rw[V] at c
   rcases zy.1 c with rfl|c
   ·exact⟨by show h.length≠h.length+2;omega,by show h.length≠h.length+3;omega,⟨_,_,rfl⟩,by rw[zK rfl];rfl⟩
   ·rw[zW] at c
    subst c
    exact⟨by show h.length+1≠h.length+2;omega,by show h.length+1≠h.length+3;omega,⟨_,_,rfl⟩,by rw[zG (k:=1) rfl];rfl⟩),
   _,_,by rw[zG (k:=2) rfl];rfl,by rw[zG (k:=3) rfl];rfl,.inl ⟨rfl,rfl⟩,.inl ⟨rfl,rfl⟩,λa s b t E=>by cases E⟩,by simp only[go_sem],by simp only[go_sem],by simp only[go_sem],by simp only[go_sem],by(simp only[go_sem]<;>rfl),by(simp only[go_sem]<;>rfl),rfl⟩ ?_
 rintro m T h' ⟨n,β,j,t4,t5,t6,Z,w,p,rfl⟩
 have C:=zua (WE s l) (v.take n)
 have q:=zua (XF s l) (v.take n)
 rw[zH] at C q
 have I:(7*l.length+12)*min n v.length<=(7*32768+12)*371:=Nat.mul_le_mul (by omega) (by omega)
 have D:(6*l.length+10)*min n v.length<=(6*32768+10)*371:=Nat.mul_le_mul (by omega) (by omega)
 simp only[go_sem,w,p]
 refine ways (λe=>?_) (λe=>?_)
 ·have o:=dlt e
  have g:=XE o
  have O:(n:Int)<v.length:=by omega
  have E:=XG (f:=jX s l) o
  have Y:=XG (f:=xT s l) o
  obtain⟨z,c⟩:∃z,z=v[n]:=⟨_,rfl⟩
  rw[<-c] at g E Y
  simp only[go_sem,t6,Z,p,g,O,R,zb,Int.toNat_natCast,zf]
  refine zh (zlb F h h' (h.length+2) (h.length+3) h.length (h.length+1) s a x l _ _ z j (j.pre.sin k) f Q hu hw (j.pre.sl H) hl (by omega) (by omega)) ?_
  rintro _ h6 ⟨rfl,k6⟩
  rw[<-E, <-Y] at k6
  simp only[go_sem,p]
  exact⟨v.length - (n+1),by omega,n+1,by omega,k6,t4,t5,t6,by rw[Z,R],w,qn (by omega) rfl,rfl⟩
 ·have θ:=xr e
  have N:n=v.length:=by omega
  subst N
  obtain⟨y,z,J,c,oy,oz,ρ⟩:=j.at_
  have A:=j.pre
  simp only[go_sem]
  refine zQ rfl [] 0 [(0,0,[]),(2,0,[]),(1,0,[2]),(3,0,[]),(4,0,[]),(5,0,[])] rfl (by decide) (by decide) ?_
  have γ:∀M,(h'++M)[h.length+2]? =some (.box 55 [y]):=λM=>ze J
  have ζ:∀M,(h'++M)[h.length+3]? =some (.box 55 [z]):=λM=>ze c
  simp only[go_sem,t4,t5,J,c]
  refine zh (J8 _ y _ oy.rows (by omega)) ?_
  rintro _ h' ⟨rfl,rfl⟩
  rw[<-d]
  simp only[go_sem,c,t5]
  refine zh (J8 _ z _ oz.rows (by omega)) ?_
  rintro _ h' ⟨rfl,rfl⟩
  rw[<-i]
  have ne:h.length+2≠h.length+3:=by omega
  have u:h.length+3≠h.length+2:=by omega
  have W:=(zd.1 J).1
  have X:=(zd.1 c).1
  simp only[go_sem,t4,t5,J,c,zc,ne,u,ne_eq,not_false_eq_true]
  have K:Pre h ((h'.set (h.length+2) (.box 55 [spv (yf s l)])).set (h.length+3) (.box 55 [spv (vY s l)])):=(A.set j.li rfl).set j.lj rfl
  obtain⟨L,hL,hN⟩:=K
  refine⟨.tup [spv (yf s l),spv (vY s l)],?_,.inr ⟨h,L,hL,rfl,yJa _ _,.refl,rfl,rfl⟩⟩
  have q1:((h'.set (h.length+2) (.box 55 [spv (yf s l)])).set (h.length+3) (.box 55 [spv (vY s l)]))[h.length+2]? =some (.box 55 [spv (yf s l)]):=by
   rw[zc u,zo (by omega)]
  have q2:((h'.set (h.length+2) (.box 55 [spv (yf s l)])).set (h.length+3) (.box 55 [spv (vY s l)]))[h.length+3]? =some (.box 55 [spv (vY s l)]):=by
   rw[zo (by rw[zJ];omega)]
  simp only[go_sem,t4,t5,q1,q2]
end Go.Proofs.YtigdlmpjijhpaaaGreat.Ax
namespace Go.Proofs.YtigdlmpjijhpaaaGreat.Ax
open Go
theorem VY{C:List Spn}{n size:Int}(u:0<size){s:Spn}(d:s∈vj C n size):((∃p∈qx C,s.from_=p.from_)∨s.from_=n*size)/\n*size<=s.from_/\s.from_<(n+1)*size:=by
 unfold vj at d
 split at d
 ·cases d
 ·rename_i w
  have j:0<=n:=by omega
  have m:0<=n*size:=Int.mul_nonneg j (by omega)
  have g:=kX s d
  have r:=(Vg (a:=C) (b:=[⟨n*size,(n+1)*size⟩]) (t:=s.from_)).1 ⟨s,d,by omega,g.2.1⟩
  obtain⟨_,_,y,c,h,i⟩:=r
  rw[zW] at c
  subst c
  refine⟨?_,h,i⟩
  obtain⟨y,c,e⟩:=Km d
  unfold xu at c
  obtain⟨z,f,rfl⟩:=zt.1 (zL.1 c).1
  obtain⟨p,l,f⟩:=List.mem_flatMap.1 f
  obtain⟨q,k,rfl⟩:=zt.1 f
  have A:=(kX p l).1
  have x:=(kX q k).1
  obtain⟨y,c,o⟩:=Km k
  unfold xu at c
  obtain⟨z,f,rfl⟩:=zt.1 (zL.1 c).1
  rw[zW] at f
  subst f
  simp only[kE] at o
  simp only[kE,ZH] at e
  by_cases v:p.from_<=q.from_
  ·right;omega
  ·left;exact⟨p,l,by omega⟩
theorem Qqa(C:List Spn)(size:Int)(a:0<size)(L:List Int)(c:L.Nodup):(L.flatMap λd=>vj C d size).length<=(qx C).length+L.length:=by
 have key:∀L:List Int,L.Nodup->((L.flatMap λd=>vj C d size).map (·.from_)).Nodup:=λL=>by
  induction L with
  | nil=>intro _;simp
  | cons d L o=>
    intro c
    rw[List.nodup_cons] at c
    rw[List.flatMap_cons,zw,List.nodup_append]
    refine⟨?_,o c.2,?_⟩
    ·unfold vj
     split
     ·simp
     ·exact(vh _).froms
    ·intro x i y n e
     obtain⟨s,f,rfl⟩:=zt.1 i
     obtain⟨t,k,rfl⟩:=zt.1 n
     obtain⟨g,l,k⟩:=List.mem_flatMap.1 k
     have u:=(VY a f).2
     have z:=(VY a k).2
     have h:d≠g:=λq=>c.1 (by rw[q];exact l)
     rw[e] at u
     rcases Int.lt_or_gt_of_ne h with r|v
     ·have:(d+1)*size<=g*size:=Int.mul_le_mul_of_nonneg_right (by omega) (by omega)
      omega
     ·have:(g+1)*size<=d*size:=Int.mul_le_mul_of_nonneg_right (by omega) (by omega)
      omega
 have j:=XC (key L c) (b:=(qx C).map (·.from_)++L.map (· *size)) λx i=>by
  obtain⟨s,f,rfl⟩:=zt.1 i
  obtain⟨d,m,f⟩:=List.mem_flatMap.1 f
  rw[zI]
  rcases (VY a f).1 with⟨p,w,e⟩|e
  ·exact .inl (zt.2 ⟨p,w,e.symm⟩)
  ·exact .inr (zt.2 ⟨d,m,e.symm⟩)
 simpa using j
theorem Xd(C:List Spn)(L:List Int)(a:L.Nodup):(L.flatMap (xl C)).length<=(qx C).length+L.length:=Qqa C 86400 (by decide) L a
theorem yKa{f g:Int->List Spn}{a b:Nat}(h:∀d,(f d).length<=a*(g d).length+b):∀L:List Int,(L.flatMap f).length<=a*(L.flatMap g).length+b*L.length
 | []=>by simp
 | d::L=>by
   have e:=h d
   have c:=yKa h L
   rw[List.flatMap_cons,List.flatMap_cons,zg,zg,List.length_cons,Nat.mul_add,Nat.mul_succ];omega
theorem zva{f g k:Int->List Spn}{a b c:Nat}(h:∀d,(f d).length<=a*(g d).length+b*(k d).length+c):∀L:List Int,(L.flatMap f).length<=a*(L.flatMap g).length+b*(L.flatMap k).length+c*L.length
 | []=>by simp
 | d::L=>by
   have i:=h d
   have e:=zva h L
   rw[List.flatMap_cons,List.flatMap_cons,List.flatMap_cons,zg,zg,zg,List.length_cons,Nat.mul_add,Nat.mul_add,Nat.mul_succ];omega
theorem yE{L:List Int}(h:L.Pairwise (· < ·)):L.Nodup:=h.imp λ{a b} q e=>by omega
open Go.Proofs
set_option maxRecDepth 100000
theorem wra(s:Setup)(l:List Seg)(d:Int):(jX s l d).length<=3*(xl (qV l) d).length+4*(xl (vi l 3) d).length+5:=by
 have c:=xx (xl (qV l) d) (xT s l d)
 have a:=Ks s (xl (qV l) d) (xl (vi l 3) d)
 have b:=qm (xl (qV l) d)
 have e:=qm (xT s l d)
 unfold jX
 unfold xT at*
 omega
theorem kAa(s:Setup)(l:List Seg):(yf s l).length<=7*l.length+4452:=by
 have h0:=qm ((qR (qV l)).flatMap (jX s l))
 have f:=zva (wra s l) (qR (qV l))
 have a:=Xd (qV l) _ (yE (vD (qV l)).1)
 have d:=Xd (vi l 3) _ (yE (vD (qV l)).1)
 have c:=yV (qV l)
 have e:=qm (qV l)
 have g:=qm (vi l 3)
 have b:=Zt l
 have h:=Vi l 3
 unfold yf
 omega
theorem kBa(s:Setup)(l:List Seg):(vY s l).length<=6*l.length+4452:=by
 have h0:=qm ((qR (qV l)).flatMap (xT s l))
 have h:=zva (λd=>Ks s (xl (qV l) d) (xl (vi l 3) d)) (qR (qV l))
 have a:=Xd (qV l) _ (yE (vD (qV l)).1)
 have f:=Xd (vi l 3) _ (yE (vD (qV l)).1)
 have c:=yV (qV l)
 have g:=qm (qV l)
 have i:=qm (vi l 3)
 have b:=Zt l
 have j:=Vi l 3
 unfold vY
 have e:(qR (qV l)).flatMap (xT s l)=(qR (qV l)).flatMap λd=>wC s (xl (qV l) d) (xl (vi l 3) d):=rfl
 rw[e] at h0⊢
 omega
def VZ(v:List Spn)(d:Int):AV:=spv (xl v d)
theorem V2a(j:Nat)(v:List Spn)(w:v.length<1048576):zdb Tryz.prog 244 [.ptr j 0] (λh=>h[j]? =some (.box 55 [spv v])) ((qR v).map (VZ v)):=by
 intro l K y d A g a x C
 have hex:∃(r:AV) (h':List Ob),K ((qR v).map (VZ v)).length h'/\ResK y h':=by
  obtain⟨h',q⟩:=a
  exact⟨.tup [],h',q⟩
 have H:=g 0 y d
 have s:=yV v
 refine zj Tryz.f244 [] 19 rfl rfl rfl rfl rfl rfl (by decide) (hex) λB=>?_
 simp only[go_sem,H,zb]
 refine zh (Xqa _ _ v (j5 _) w) ?_
 rintro _ L ⟨rfl,rfl⟩
 rw[zb] at a
 obtain⟨W,I⟩:∃W,W=qR v:=⟨_,rfl⟩
 rw[<-I] at s a C⊢
 simp only[go_sem,zb]
 refine zO (by decide) (λm T h'=>∃(i:Nat),i<=W.length/\K i h'/\T 0= .v (.func (.yield l) #[] #[])/\T 1= .ptr j 0/\T 6= .sl 1 (W.map qz)/\T 7=i64 W.length/\T 8=i64 i/\m=W.length - i) W.length
  ⟨0,by omega,d,by simp only[go_sem],by simp only[go_sem],by simp only[go_sem],by(simp only[go_sem]<;>rfl),by(simp only[go_sem]<;>rfl),rfl⟩ ?_
 rintro m T h' ⟨i,hi,t,t0,t1,t6,D,t8,rfl⟩
 simp only[go_sem,D,t8]
 refine ways (λe=>?_) (λe=>?_)
 ·have c:=dlt e
  have b:=XE c
  have o:(i:Int)<W.length:=by omega
  have u:=g i h' t
  have k:(W.map (VZ v))[i]? =some (VZ v W[i]):=by rw[zz,zi c];rfl
  have f:=C i _ h' k t
  obtain⟨z,E⟩:∃z,z=W[i]:=⟨_,rfl⟩
  rw[<-E] at b f
  simp only[go_sem,t0,t1,t6,t8,b,u,o,zb,Int.toNat_natCast,zf]
  refine zh (wka _ _ v z (j5 _) w) ?_
  rintro _ M ⟨rfl,rfl⟩
  simp only[go_sem]
  refine JO f ?_
  rintro J ⟨n,G⟩
  simp only[go_sem,t8]
  exact⟨W.length - (i+1),by omega,i+1,by omega,n,t0,t1,t6,D,qn (by omega) rfl,rfl⟩
 ·have F:=xr e
  have p:i=W.length:=by omega
  subst p
  simp only[go_sem]
  exact⟨_,rfl,.inl t⟩
theorem Qra(h:List Ob)(v:List Spn):ACalls Tryz.prog 185 [spv v] h λr h'=>r= .fn (.func 244) [] [.ptr h.length 0]/\h'=h++[.box 55 [spv v]]:=by
 refine zj Tryz.f185 [.tmp 2] 4 rfl rfl rfl rfl rfl rfl (by decide) (⟨_,_,⟨rfl,rfl⟩,resK_app⟩) λB=>?_
 simp only[go_sem]
 exact⟨_,rfl,.inl ⟨rfl,rfl⟩⟩
theorem XOa(h:List Ob)(j:Nat)(v:List Spn)(n:Int)(b:h[j]? =some (.box 55 [spv v]))(a:v.length<1048576)(c:Fit n):
  ACalls Tryz.prog 186 [i64 n,.ptr j 0] h λr h'=>r=spv (qP v n)/\h'=h:=by
 refine zj Tryz.f186 [.tmp 3] 7 rfl rfl rfl rfl rfl rfl (by decide) (⟨_,_,⟨rfl,rfl⟩,.refl⟩) λB=>?_
 simp only[go_sem,b]
 refine zh (jVa _ _ v n (j5 _) a c) ?_
 rintro _ d ⟨rfl,rfl⟩
 simp only[go_sem]
 exact⟨_,by simp only[go_sem],.inl ⟨rfl,rfl⟩⟩
def Sv(y:AV)(R:List Spn):Prop:=y=spv R∨y= .v (.slice none 0 0)/\R=[]
theorem Sv.sl{h:List Ob}{y:AV}{R:List Spn}(k:Sv y R):SlOf h y 2 (R.map qJ):=by
 rcases k with rfl|⟨rfl,rfl⟩
 ·exact j5 _
 ·exact⟨rfl,λh=>absurd rfl h⟩
def ZW(s:Setup)(W:List Spn)(l:List Int):List Spn:=l.flatMap λd=>qP (xl W d) s.dayReg
def Qm(s:Setup)(W:List Spn)(l:List Int):List Spn:=l.flatMap λd=>qP (xl W d) s.dayOver
def Jz(s:Setup)(p:List Spn)(w:Int):List Spn × List Spn × List Spn:=
 let W:=jr p w
 let t:=qP (ZW s W (qR W)) s.weekReg
 (t,jD (Qm s W (qR W)) t,jD W (Qm s W (qR W)))
theorem yF(W:List Spn)(n:Int)(L:List Int)(h:L.Nodup):(L.flatMap λd=>qP (xl W d) n).length<=W.length+L.length:=by
 have e:=yKa (f:=λd=>qP (xl W d) n) (g:=xl W) (a:=1) (b:=0) (λd=>by
  have e:(qP (xl W d) n).length<=(qx (xl W d)).length:=xP _ _
  have c:=qm (xl W d)
  omega) L
 have c:=Xd W L h
 have i:=qm W
 omega
theorem XPa{s:Setup}{W:List Spn}{l:List Int}{n:Nat}(h:n<l.length):ZW s W (l.take (n+1))=ZW s W (l.take n)++qP (xl W l[n]) s.dayReg:=XG h
theorem XQa{s:Setup}{W:List Spn}{l:List Int}{n:Nat}(h:n<l.length):Qm s W (l.take (n+1))=Qm s W (l.take n)++qP (xl W l[n]) s.dayOver:=XG h
structure KOv (h:List Ob) (s:Setup) (a:SA) (W:List Spn) (l:List Int) (h':List Ob):Prop where
 pre:Pre h h'
 set_:h'[h.length]? =some (.box 30 (qg s a))
 reg:∃y,h'[h.length+1]? =some (.box 55 [y])/\Sv y (ZW s W l)
 ovr:∃y,h'[h.length+2]? =some (.box 55 [y])/\Sv y (Qm s W l)
 wk:h'[h.length+3]? =some (.box 55 [spv W])
theorem KOv.app{h:List Ob}{s:Setup}{a:SA}{W:List Spn}{l:List Int}{h':List Ob}(k:KOv h s a W l h'){M:List Ob}(b:NoRes M):KOv h s a W l (h'++M):=
 ⟨k.pre.app b,ze k.set_,let ⟨y,q1,q2⟩:=k.reg;⟨y,ze q1,q2⟩,let ⟨y,q1,q2⟩:=k.ovr;⟨y,ze q1,q2⟩,ze k.wk⟩
theorem KOv.raw{h:List Ob}{s:Setup}{a:SA}{W:List Spn}{b:List Int}{h':List Ob}(k:KOv h s a W b h'){j l o ks us o'}(f:h.length<=j)(d:h'[j]? =some (.raw l o ks us)):KOv h s a W b (h'.set j (.raw l o' ks us)):=by
 have c:∀(z:Nat) t cs,h'[z]? =some (.box t cs)->(h'.set j (.raw l o' ks us))[z]? =some (.box t cs):=λz t cs q=>by
  have:j≠z:=λe=>by rw[e,q] at d;cases d
  rw[zc this];exact q
 exact⟨k.pre.set f rfl,c _ _ _ k.set_,let ⟨y,q1,q2⟩:=k.reg;⟨y,c _ _ _ q1,q2⟩,let ⟨y,q1,q2⟩:=k.ovr;⟨y,c _ _ _ q1,q2⟩,c _ _ _ k.wk⟩
theorem KOv.put{h:List Ob}{s:Setup}{a:SA}{W:List Spn}{l l':List Int}{h':List Ob}(k:KOv h s a W l h'){M:List Ob}(c:NoRes M){y z:AV}(b:Sv y (ZW s W l'))(e:Sv z (Qm s W l')):
  KOv h s a W l' (((h'++M).set (h.length+1) (.box 55 [y])).set (h.length+2) (.box 55 [z])):=by
 obtain⟨g,d,_⟩:=k.reg
 obtain⟨z0,f,_⟩:=k.ovr
 have i:=(zd.1 d).1
 have l2:=(zd.1 f).1
 refine⟨((k.pre.app c).set (by omega) rfl).set (by omega) rfl,?_,⟨y,?_,b⟩,⟨z,?_,e⟩,?_⟩
 ·rw[zc (by omega),zc (by omega)];exact ze k.set_
 ·rw[zc (by omega),zo (by rw[zg];omega)]
 ·rw[zo (by rw[zJ,zg];omega)]
 ·rw[zc (by omega),zc (by omega)];exact ze k.wk
theorem KOv.raws{h:List Ob}{s:Setup}{a:SA}{W:List Spn}{l:List Int}{h':List Ob}(k:KOv h s a W l h'){M:List Ob}{o o':Ob}:RawK h' (((h'++M).set (h.length+1) o).set (h.length+2) o'):=by
 obtain⟨d,c,_⟩:=k.reg
 obtain⟨z0,b,_⟩:=k.ovr
 exact(RawK.app.trans (.setB (ze c))).trans (.setB ((zc (by omega)).trans (ze b)))
theorem jpb(h:List Ob)(s:Setup)(a:SA)(k:SIn h s a)(f:SFit s)(P:z6 s=true)(x:AV)(p:List Spn)(w:Int)(u:SlOf h x 2 (p.map qJ))(hl:p.length<262144):
  ACalls Tryz.prog 115 [jg s a,x,i64 w] h λr h'=>r= .tup [spv (Jz s p w).1,spv (Jz s p w).2.1,spv (Jz s p w).2.2]/\h'=h:=by
 have V:=VX P
 refine Wx Tryz.f115 [.tmp 6,.tmp 7,.tmp 8] 49 rfl rfl rfl rfl rfl rfl (⟨_,rfl⟩) λbs=>?_
 refine kF (by decide) ?_
 simp only[go_sem,k.ones]
 refine kF (by decide) ?_
 simp only[go_sem,k.ones]
 refine zh (c16 _ s a (k.app _) f) ?_
 rintro _ h1 ⟨rfl,rfl⟩
 simp only[go_sem,P,qv,Bool.not_true]
 refine kF (by decide) ?_
 simp only[go_sem]
 refine kF (by decide) ?_
 simp only[go_sem]
 refine zh (yAa _ x p w (u.app _) (by omega)) ?_
 rintro _ h1 ⟨rfl,rfl⟩
 simp only[go_sem]
 have α:(jr p w).length<=(qx p).length+1:=QD _ _ _
 have ρ:=qm p
 obtain⟨W,hW⟩:∃W,W=jr p w:=⟨_,rfl⟩
 have γ:Jz s p w=(qP (ZW s W (qR W)) s.weekReg,jD (Qm s W (qR W)) (qP (ZW s W (qR W)) s.weekReg),jD W (Qm s W (qR W))):=by rw[hW];rfl
 rw[γ]
 rw[<-hW] at α⊢
 refine zja ?_
 refine kF (by decide) ?_
 simp only[go_sem]
 refine zh (Qra _ W) ?_
 rintro _ h1 ⟨rfl,rfl⟩
 simp only[go_sem]
 have ω:=yV W
 have base:KOv h s a W ((qR W).take 0) (h++[.box 30 (qg s a),.box 55 [.v (.slice none 0 0)],.box 55 [.v (.slice none 0 0)],.box 55 [spv W]]):=
  ⟨⟨_,rfl,zl rfl (zl rfl (zl rfl (zD rfl)))⟩,by rw[zK rfl];rfl,⟨_,by rw[zG (k:=1) rfl];rfl,.inr ⟨rfl,rfl⟩⟩,⟨_,by rw[zG (k:=2) rfl];rfl,.inr ⟨rfl,rfl⟩⟩,by rw[zG (k:=3) rfl];rfl⟩
 refine yDa (Ww (qRa (zka (p:=22) (by decide) rfl (by simp only[go_sem]) (V2a (h.length+3) W (by omega))
  (λn h'=>KOv h s a W ((qR W).take n) h')
  (λn x C A=>C 3= .ptr h.length 0/\C 9= .ptr (h.length+1) 0/\C 10= .ptr (h.length+2) 0/\∃d j,(qR W)[n]? =some d/\C 12= .ptr j 0/\A[j]? =some (.box 55 [spv (xl W d)])/\j≠h.length+1/\j≠h.length+2/\KOv h s a W ((qR W).take n) A)
  ?_ (λn h' M E k=>k.app E) (λn h' k=>k.wk) ?_ ?_ ?_ ?_ ?_) ?_))
 ·exact λM E=>base.app E
 ·intro M E
  have q:=(base.app E).put (M:=[]) (l':=(qR W).take ((qR W).map (VZ W)).length) jm (.inl rfl) (.inl rfl)
  refine⟨_,q,(base.app E).pre.resK q.pre,(base.app E).raws⟩
 ·intro n h' j l o ks us o' Z k O
  exact k.raw (Nat.le_trans (by rw[zg];exact Nat.le_add_right _ _) Z) O
 ·rintro n x C A j l o ks us o' Z ⟨t3,t9,t10,d,m,q1,q2,N,q4,q5,k⟩ O
  refine⟨t3,t9,t10,d,m,q1,q2,?_,q4,q5,k.raw (Nat.le_trans (by rw[zg];exact Nat.le_add_right _ _) Z) O⟩
  have:j≠m:=λe=>by rw[e,N] at O;cases O
  rw[zc this];exact N
 ·intro bb l n x h' u k
  rw[zz] at u
  cases hs:(qR W)[n]? with
  | none=>rw[hs] at u;cases u
  | some d=>
    rw[hs] at u
    injection u with u
    subst u
    refine Jh (by decide) (by decide) ?_
    have ξ:=(zd.1 k.wk).1
    simp only[go_sem,Xta,VZ]
    exact⟨⟨d,h'.length,rfl,rfl,by rw[zK rfl];rfl,by omega,by omega,k.app (zD rfl)⟩,.app,.app⟩
 ·rintro bb l n x C A u ⟨t3,t9,t10,d,m,q1,q2,N,q4,q5,k⟩
  obtain⟨y,K,Q⟩:=k.reg
  obtain⟨z,G,H⟩:=k.ovr
  refine qQa (VLa (Jh (by decide) (by decide) ?_))
  simp only[go_sem,q2]
  refine Xra rfl [.res,.res] 2 [(1,0,[]),(2,0,[]),(8,0,[]),(9,0,[]),(0,0,[]),(3,0,[]),(7,0,[]),(10,0,[]),(4,0,[0,7,10]),(5,0,[]),(6,0,[7,10]),(11,0,[7]),(12,1,[]),(13,0,[]),(14,0,[]),(15,0,[])] rfl (by decide) (by decide) (by decide) (λ_ _ q=>by cases q.1) ?_
  have g:∀M,(A++M)[h.length+1]? =some (.box 55 [y]):=λM=>ze K
  have c:∀M,(A++M)[h.length+2]? =some (.box 55 [z]):=λM=>ze G
  have b:∀M,(A++M)[h.length]? =some (.box 30 (qg s a)):=λM=>ze k.set_
  have U:=(Q.sl (h:=h)).cells
  have X:=(Q.sl (h:=h)).one
  have Y:=(H.sl (h:=h)).cells
  have δ:=(H.sl (h:=h)).one
  have i:=yE ((vD W).1.sublist (List.take_sublist n _))
  have F:=yF W s.dayReg _ i
  have B:=yF W s.dayOver _ i
  rw[zH] at F B
  have σ:=QG W d
  have hf1:(qP (xl W d) s.dayReg).length<=(qx (xl W d)).length:=xP _ _
  have hf2:(qP (xl W d) s.dayOver).length<=(qx (xl W d)).length:=xP _ _
  have hf3:=qm (xl W d)
  have ο:=V.dayReg
  have φ:=V.dayOver
  obtain⟨J,T⟩:=zd.1 q1
  have e1:=XPa (s:=s) (W:=W) J
  have e2:=XQa (s:=s) (W:=W) J
  rw[T] at e1 e2
  simp only[go_sem,t3,t9,t10,g,c,b]
  refine zh (XOa _ m (xl W d) s.dayReg (ze N) (by omega) (by unfold Fit;omega)) ?_
  rintro _ I ⟨rfl,rfl⟩
  simp only[go_sem,X,U,t3,t9,t10,g,c,b]
  refine zh (zsa _ A.length y _ (ZW s W ((qR W).take n)) (qP (xl W d) s.dayReg) (by rw[zK rfl];rfl) Q.sl (j5 _) (by unfold ZW;omega) (by omega)) ?_
  rintro _ I ⟨rfl,rfl⟩
  rw[<-e1]
  simp only[go_sem,t3,t9,t10,g,c,b]
  refine zh (XOa _ m (xl W d) s.dayOver (ze N) (by omega) (by unfold Fit;omega)) ?_
  rintro _ I ⟨rfl,rfl⟩
  simp only[go_sem,δ,Y,t3,t9,t10,g,c,b]
  refine zh (zsa _ (A.length+1) z _ (Qm s W ((qR W).take n)) (qP (xl W d) s.dayOver) (by rw[zG (k:=1) rfl];rfl) H.sl (j5 _) (by unfold Qm;omega) (by omega)) ?_
  rintro _ I ⟨rfl,rfl⟩
  rw[<-e2]
  have ne:h.length+1≠h.length+2:=by omega
  simp only[go_sem,t3,t9,t10,g,c,b,zc,ne,ne_eq,not_false_eq_true]
  exact⟨k.put (zl rfl (zD rfl)) (.inl rfl) (.inl rfl),k.raws,(KeepB.app.trans (.setL (by omega))).trans (.setL (by omega))⟩
 ·rintro e ds C A ⟨rfl,rfl,D,id,rfl,hid,L,k⟩
  rw[zg] at hid
  rw[zb,zV] at k
  obtain⟨y,K,Q⟩:=k.reg
  obtain⟨z,G,H⟩:=k.ovr
  have R:=k.pre
  have b:=k.set_
  have i:=yE (vD W).1
  have F:=yF W s.dayReg _ i
  have B:=yF W s.dayOver _ i
  have ψ:=V.weekReg
  have τ:(ZW s W (qR W)).length<=W.length+(qR W).length:=F
  have hl2:(Qm s W (qR W)).length<=W.length+(qR W).length:=B
  refine⟨rfl,(kF (by decide) ?_:XO _ _ _ _ _ _ _ _)⟩
  simp only[go_sem,K,G,b]
  refine zh (jVa _ y (ZW s W (qR W)) s.weekReg Q.sl (by omega) (by unfold Fit;omega)) ?_
  rintro _ I ⟨rfl,rfl⟩
  simp only[go_sem]
  obtain⟨t,S⟩:∃t,t=qP (ZW s W (qR W)) s.weekReg:=⟨_,rfl⟩
  have υ:t.length<=(qx (ZW s W (qR W))).length:=by rw[S];exact xP _ _
  have htn:=qm (ZW s W (qR W))
  rw[<-S]
  refine yDa (qSa (by decide) ?_)
  simp only[go_sem]
  refine zQ rfl [] 0 [(0,0,[]),(2,0,[]),(4,0,[]),(1,0,[]),(5,0,[]),(3,0,[5]),(6,0,[]),(7,0,[]),(8,0,[]),(9,0,[])] rfl (by decide) (by decide) ?_
  simp only[go_sem,K,G]
  refine zh (Kq _ z _ (Qm s W (qR W)) t H.sl (j5 _) (by omega) (by omega)) ?_
  rintro _ I ⟨rfl,rfl⟩
  simp only[go_sem,G]
  refine zh (Kq _ _ z W (Qm s W (qR W)) (j5 _) H.sl (by omega) (by omega)) ?_
  rintro _ I ⟨rfl,rfl⟩
  simp only[go_sem,K,G]
  exact Xya (.inr ⟨D,id,rfl,by omega,L⟩) R (r:= .tup [spv t,spv (jD (Qm s W (qR W)) t),spv (jD W (Qm s W (qR W)))]) (λ_=>rfl) (V1a _ _ _) rfl
open Go.Shelf Go.RowKit Go.Lib Go.Sort
def Zh{α:Type}(enc:α->List Value)(l:List α):List Value:=(l.map enc).flatten
theorem XH{α:Type}(enc:α->List Value)(K:Nat)(a:∀x,(enc x).length=K):∀l:List α,(Zh enc l).length=l.length*K
 | []=>by simp[Zh]
 | x::l=>by
   have:=XH enc K a l
   simp only[Zh,List.map_cons,List.flatten_cons,zg,List.length_cons,a] at this⊢
   rw[this,Nat.succ_mul];omega
theorem zwa{α:Type}(enc:α->List Value):∀l:List α,(l.map λx=>(enc x).map AV.v).flatten=(Zh enc l).map .v
 | []=>rfl
 | x::l=>by
   have:=zwa enc l
   simp only[Zh,List.map_cons,List.flatten_cons,zw] at this⊢
   rw[this]
section
variable {α:Type} [Inhabited α] (enc:α->List Value) (K:Nat)
theorem Vj(e:0<K)(a:∀x,(enc x).length=K):∀(l:List α) (t:Nat),t<l.length*K->(Zh enc l)[t]? =some ((enc l.toArray[t / K]!)[t % K]!)
 | [],t,h=>by simp at h
 | x::l,t,h=>by
   by_cases b:t<K
   ·have d:(Zh enc (x::l))[t]? =(enc x)[t]? :=by
     simp only[Zh,List.map_cons,List.flatten_cons]
     rw[zN (by rw[a];exact b)]
    have f:t<(enc x).length:=by rw[a];exact b
    rw[d,Nat.div_eq_of_lt b,Nat.mod_eq_of_lt b,zi f]
    simp[getElem!_pos (enc x) t f]
   ·have d:(Zh enc (x::l))[t]? =(Zh enc l)[t - K]? :=by
     simp only[Zh,List.map_cons,List.flatten_cons]
     rw[zX (by rw[a];omega),a]
    have c:t - K<l.length*K:=by rw[List.length_cons,Nat.succ_mul] at h;omega
    rw[d,Vj e a l _ c]
    have g:t / K=(t - K) / K+1:=by rw[Nat.div_eq_sub_div e (by omega)]
    have i:t % K=(t - K) % K:=Nat.mod_eq_sub_mod (by omega)
    rw[g,i]
    simp
theorem WF(c:0<K)(a:∀x,(enc x).length=K)(l:List α):(flatK enc K l.toArray).toList=Zh enc l:=by
 apply qX
 intro t
 by_cases b:t<l.length*K
 ·rw[Vj enc K c a l t b]
  simp[flatK,b]
 ·rw[qB (by simp;omega),qB (by rw[XH enc K a];omega)]
theorem XRa{P:Program}{f Q:FuncId}{ty:TypeId}(hK:0<K)(m:∀x,(enc x).length=K)(lt:α->α->Bool)(I:Yq P f=true)
  (hex:∀l:List α,∃l':List α,l'.Perm l/\l'.Pairwise λa b=>lt b a=false)
  (hc:∀(blk off cap:Nat) (d:Array α) (w:World),HoldsK enc K w blk off d->blk<w.heap.size->d.size<4611686018427387904->Calls P f #[.slice (some ⟨blk,off,none⟩) d.size cap,.func (.func Q) #[] #[]] w λe w'=>e= .returned (.tuple #[])/\∃c n os,PermIn 0 d.size d c/\SortedIn lt 0 d.size c/\w'=sortWorldK enc K w blk off n c os)
  (O:∀(A:Option Addr) (cap:Nat) (w:World),Calls P f #[.slice A 0 cap,.func (.func Q) #[] #[]] w λe w'=>e= .returned (.tuple #[])/\w'=w)
  (h:List Ob) (id st:Nat) (l:List α) (N:h[id]? =some (.row ty K (l.map λx=>(enc x).map .v) st)) (hl:l.length<1099511627776):
  ACalls P f [.tl id st,.fn (.func Q) [] []] h λr h'=>r= .tup []/\∃l':List α,l'.Perm l/\(l'.Pairwise λa b=>lt b a=false)/\h'=h.set id (.row ty K (l'.map λx=>(enc x).map .v) st):=by
 refine⟨I,?_,?_⟩
 ·obtain⟨l',q1,M⟩:=hex l
  exact⟨_,_,⟨rfl,l',q1,M,rfl⟩,qj N rfl⟩
 ·intro φ hu B w g vs W hB D
  have E:(fill φ h)[id]? =some (.row ty K (l.map λx=>(enc x).map .v) st):=qL N rfl
  obtain⟨v1,r1,rfl,⟨_,R,J⟩,v2,r2,rfl,⟨us,vs,rfl,p,s⟩,U⟩:=D
  have U:r2=[]:=U
  subst U
  have p:us.toList=[]:=p
  have s:vs.toList=[]:=s
  have p:us= #[]:=by simpa using p
  have s:vs= #[]:=by simpa using s
  subst p;subst s
  have e0:v1=g.cur id:=(J st (by simp[ctx,E,Ob.tok])).2 rfl
  obtain⟨q0,q1,cells,M,q3⟩:=W.ok id _ E
  rw[zwa] at q3
  have e1:=Ve q3
  subst e1
  by_cases F:l=[]
  ·subst F
   have S:∃A k,g.cur id= .slice A 0 k:=by
    rcases M.2 with⟨o,_⟩|⟨C,cap,cur,o,_⟩
    ·exact⟨_,_,o⟩
    ·exact⟨_,_,o⟩
   obtain⟨A,k,S⟩:=S
   rw[e0,S]
   refine(O A k w).mono ?_
   rintro e w' ⟨rfl,rfl⟩
   exact⟨_,_,_,_,rfl,⟨rfl,[],.refl _,.nil,(qS N).symm⟩,.refl,Good.refl W hB, #[],rfl,rfl⟩
  rcases M.2 with⟨_,o⟩|⟨C,cap,cur,o,e4,L,V,e7,e8,e9⟩
  ·exfalso
   simp at o
   exact F o
  ·have o:g.cur id=_:=o
   simp only[zb] at o V e9
   have T:l.length*K<=cur.size:=by rw[e8];exact Nat.mul_le_mul_right _ V
   have Y:∀j,j<l.length*K->cur[j]? =some ((enc l.toArray[j / K]!)[j % K]!):=λj u=>by
    rw[<-Vj enc K hK m l j u, <-e9,qZ,if_pos u,qC]
   have hH:HoldsK enc K w C 0 l.toArray:=λj u=>by
    have u:j<l.length*K:=by simpa using u
    refine⟨?_,?_⟩
    ·simp only[World.cell?,L,Nat.zero_add]
     rw[get_flatK _ _ _ _ (by simpa using u)]
     exact Y j u
    ·simp[World.frozen?,L]
   have q:=hc C 0 cap l.toArray w hH (qM.1 L).1 (by simp;omega)
   rw[e0,o]
   have X:l.toArray.size=l.length:=by simp
   rw[X] at q
   refine q.mono ?_
   rintro e w' ⟨rfl,c,n,os,hp,hs,rfl⟩
   obtain⟨p1,p2,p3⟩:=hp
   have G:c.size=l.length:=by rw[p1];simp
   have y:c.toList.Perm l:=by
    have a1:c.extract 0 l.length=c:=by rw[<-G];simp
    have a2:l.toArray.extract 0 l.length=l.toArray:=by simp
    rw[a1,a2] at p3
    exact p3
   have z:c.toList.Pairwise λa b=>lt b a=false:=by
    rw[List.pairwise_iff_getElem]
    intro i j hi u Z
    simp only[qF] at hi u
    have:=hs i j (by omega) Z (by omega)
    rw[getElem!_pos c i hi,getElem!_pos c j u] at this
    simpa using this
   have hF:(flatK enc K c).toList=Zh enc c.toList:=WF enc K hK m c.toList
   have H:(flatK enc K c).size=l.length*K:=by simp[G]
   have t:=Zv (w':=sortWorldK enc K w C 0 n c os) (v':=g.cur id) (st':=st) (xs':=c.toList.map λx=>(enc x).map .v) (cells:=Zh enc c.toList) W hB E (by simp[m]) (by rw[o];exact VS w C n _ os)
    ⟨by rw[XH enc K m];simp,.inr ⟨C,cap,_,by simp[o,G],e4,Y8 w C n _ os L,by simp[G];exact V,e7,by simp[putCells];exact e8,by
     have:=Y9 (flatK enc K c) cur (by rw[H];exact T)
     rw[hF,H] at this
     simpa [G] using this⟩⟩ (by rw[zwa];exact JI _) (.inl ⟨rfl,rfl⟩) (λb hb=> .inl hb)
   rw[<-ji rfl] at t
   exact⟨_,_,_,_,rfl,⟨rfl,c.toList,y,z,rfl⟩,qj N rfl,t, #[],rfl,rfl⟩
end
structure Pt where
 from_:Int
 to_:Int
 kind:Int
instance:Inhabited Pt:=⟨⟨0,0,0⟩⟩
def yLa(x:Pt):List Value:=[.int .i64 x.from_,.int .i64 x.to_,.int .i64 x.kind]
def ptC(x:Pt):List AV:=[i64 x.from_,i64 x.to_,i64 x.kind]
theorem Ysa{n:Nat}:∀l:List Pt,qO n (l.map ptC)=true
 | []=>rfl
 | s::l=>by
   rw[List.map_cons,qO,Ysa l];rfl
set_option maxHeartbeats 1000000 in
theorem Qsa(x y:Pt)(W:World):Calls Tryz.prog 121 #[.agg #[.int .i64 x.from_,.int .i64 x.to_,.int .i64 x.kind],.agg #[.int .i64 y.from_,.int .i64 y.to_,.int .i64 y.kind]] W λe w'=>e= .returned (.int .i64 (Lib.compareInt x.from_ y.from_))/\∃q b,w'=grow (W.drewN q) b:=by
 have a:=λc=>AnyG.cmp_Compare_int wea x.from_ y.from_ c
 change ∀c,Calls Tryz.prog 122 _ _ _ at a
 generalize Lib.compareInt x.from_ y.from_=r at a⊢
 go_enter Tryz.func121,Tryz.ntmps121
 go_wp2_with (go_at_call 122;refine(a _).mono ?_;rintro e w' ⟨rfl,rfl⟩)
 go_ret
 exact⟨rfl,0,_,by rw[alloc_eq_grow,alloc_eq_grow,grow_grow];rfl⟩
theorem Qta(blk off size:Nat)(w:World):CmpLays Tryz.prog 121 #[] yLa 3 (λx y=>Lib.compareInt x.from_ y.from_) blk off size w:=
 λ_ _ _ _ x y=>Qsa x y _
theorem V3a(x y:Pt):ltOf (λx y:Pt=>Lib.compareInt x.from_ y.from_) x y=decide (x.from_<y.from_):=by
 unfold ltOf Lib.compareInt
 by_cases a:x.from_<y.from_
 ·simp[a]
 ·by_cases b:y.from_<x.from_<;>simp[a,b]
theorem jqb:SWO (ltOf λx y:Pt=>Lib.compareInt x.from_ y.from_):=
 { irrefl:=λx=>by rw[V3a];simp
   trans:=λx y z b a=>by rw[V3a] at *; simp at *; omega
   ntrans:=λx y z b a=>by rw[V3a] at *; simp at *; omega }
theorem V4a(h:List Ob)(id st:Nat)(l:List Pt)(n:h[id]? =some (.row 194 3 (l.map ptC) st))(k:l.length<1099511627776):
  ACalls Tryz.prog 120 [.tl id st,.fn (.func 121) [] []] h λr h'=>r= .tup []/\∃l':List Pt,l'.Perm l/\(l'.Pairwise λa b=>ltOf (λx y:Pt=>Lib.compareInt x.from_ y.from_) b a=false)/\h'=h.set id (.row 194 3 (l'.map ptC) st):=by
 refine XRa yLa 3 (by decide) (λ_=>rfl) (ltOf λx y:Pt=>Lib.compareInt x.from_ y.from_) (by kernel_rfl) (λl=>?_) ?_ ?_ h id st l n k
 ·refine⟨_,List.mergeSort_perm l (λa b=>decide (a.from_<=b.from_)),?_⟩
  have:=List.pairwise_mergeSort (le:=λa b:Pt=>decide (a.from_<=b.from_)) (λa b c p o=>by simp at *; omega) (λa b=>by simp;omega) l
  exact this.imp λh=>by rw[V3a];simpa using h
 ·intro blk off cap d w m f g
  have j:∀args w,(callFunc 121 args).run Tryz.prog w= .ok (.enter 121 args) w:=enters_of Tryz.func121 (by kernel_rfl) rfl
  have e:=AnyQ.slices_SortFunc zxa 3 Tryz.isAgg194 Tryz.sizeOf194 yLa (λ_=>rfl) (λx v i=>by simp[yLa] at i;rcases i with rfl|rfl|rfl<;>rfl) (λx y=>Lib.compareInt x.from_ y.from_) jqb 121 #[] blk off cap d w j (Qta blk off d.size w) m f g
  exact e
 ·intro A cap w
  have e:=AnyF.slices_SortFunc_none zxa A cap (.func (.func 121) #[] #[]) w
  exact e
theorem XSa(x:AV):xy Tryz.prog 120 [.v (.slice none 0 0),x] (.tup []):=λh=>by
 refine⟨by kernel_rfl,⟨_,_,⟨rfl,rfl⟩,.refl⟩,?_⟩
 intro φ k B w g vs j hB a
 obtain⟨v1,l,rfl,d,f,i,rfl,_,c⟩:=a
 have c:i=[]:=c
 subst c
 have d:v1= .slice none 0 0:=d
 subst d
 have b:=AnyF.slices_SortFunc_none zxa none 0 f w
 refine Calls.mono b ?_
 rintro e w' ⟨rfl,rfl⟩
 exact⟨_,_,_,_,rfl,⟨rfl,rfl⟩,.refl,Good.refl j hB, #[],rfl,rfl⟩
def ZX(l:List Spn)(k:Int):List Pt:=l.map λs=>⟨s.from_,s.to_,k⟩
theorem yW(l:List Spn)(k:Int):(ZX l k).length=l.length:=by simp[ZX]
theorem zmb(F:List (Nat × Ob))(h0 h:List Ob)(i:Nat)(p:List Pt)(l:List Spn)(a:Int)(k:LIn F h0 h i 126 194 3 (p.map ptC))(L:p.length<1073741824)(N:l.length<1073741824):
  ACalls Tryz.prog 116 [spv l,i64 a,.ptr i 0] h λr h'=>r= .tup []/\LIn F h0 h' i 126 194 3 ((p++ZX l a).map ptC):=by
 have hex:∃r h',(r=AV.tup []/\LIn F h0 h' i 126 194 3 ((p++ZX l a).map ptC))/\ResK h h':=by
  obtain⟨h',J,I⟩:=k.any ((p++ZX l a).map ptC)
  exact⟨_,h',⟨rfl,J⟩,I⟩
 refine zj Tryz.f116 [] 23 rfl rfl rfl rfl rfl rfl (by decide) (hex) λB=>?_
 simp only[go_sem,zb]
 refine zO (by decide) (λm T h'=>∃n:Nat,n<=l.length/\LIn F h0 h' i 126 194 3 ((p++ZX (l.take n) a).map ptC)/\T 1=i64 a/\T 2= .ptr i 0/\T 7=spv l/\T 8=i64 l.length/\T 9=i64 n/\m=l.length - n) l.length
  ⟨0,by omega,by simpa [ZX] using k,by simp only[go_sem],by simp only[go_sem],by simp only[go_sem],by(simp only[go_sem]<;>rfl),by(simp only[go_sem]<;>rfl),rfl⟩ ?_
 clear k hex
 rintro m T h' ⟨n,O,k,t1,t2,A,t8,t9,rfl⟩
 simp only[go_sem,t8,t9]
 refine ways (λe=>?_) (λe=>?_)
 ·have o:=dlt e
  have c:=Jf o
  have j:(n:Int)<l.length:=by omega
  have b:(p++ZX (l.take (n+1)) a).map ptC=(p++ZX (l.take n) a).map ptC++[[i64 (l[n]).from_,i64 (l[n]).to_,i64 a]]:=by
   rw[show l.take (n+1)=l.take n++[l[n]] from(zE o).symm]
   simp only[ZX,zw,List.map_cons,List.map_nil,zr]
   rfl
  have f:((p++ZX (l.take n) a).length+1)*25<=140737488355328:=by
   rw[zg,yW,zH];omega
  obtain⟨z,D⟩:∃z,z=l[n]:=⟨_,rfl⟩
  rw[<-D] at c b
  obtain⟨P,H⟩:∃P,P=(p++ZX (l.take n) a):=⟨_,rfl⟩
  rw[<-H] at b f k
  obtain⟨E,d,x⟩:=k.at_
  have hi:=k.lt
  have g:∀M,(h'++M)[i]? =some (.box 126 [E]):=λM=>ze d
  rcases x with⟨rfl,t⟩|⟨id,st,C,rfl,u⟩
  ·simp only[go_sem,t1,t2,A,t9,c,j,d,g,zb,Int.toNat_natCast,zf]
   rw[t,List.nil_append] at b
   have q:=k.push_nil (M:=[.box 143 (qJ z),.row 194 3 [[i64 z.from_,i64 z.to_,i64 a]] 0,.row 194 3 [[i64 z.from_,i64 z.to_,i64 a]] 0]) (zl rfl (zl rfl (zD rfl))) (id:=h'.length+2) (by omega) (by rw[zG (k:=2) rfl];rfl)
   rw[<-b] at q
   exact⟨l.length - (n+1),by omega,n+1,by omega,by rw[b] at q ⊢;exact q,t8,qn (by omega) rfl,rfl⟩
  ·have K:∀M,(h'++M)[id]? =some (.row 194 3 (P.map ptC) st):=λM=>ze u
   have v:id≠i:=λq=>by rw[q,d] at u;cases u
   have s:∀M o',((h'++M).set id o')[i]? =some (.box 126 [.tl id st]):=λM o'=>by
    rw[zc v];exact g M
   simp only[go_sem,t1,t2,A,t9,c,j,d,g,K,s,f,zb,Int.toNat_natCast,zf]
   have y:∀M,NoRes M->LIn F h0 (((h'++M).set id (.row 194 3 (P.map ptC++[[i64 z.from_,i64 z.to_,i64 a]]) (st+1))).set i (.box 126 [.tl id (st+1)])) i 126 194 3 ((p++ZX (l.take (n+1)) a).map ptC):=λM y=>by
    rw[b];exact k.push_own y C u
   exact⟨l.length - (n+1),by omega,n+1,by omega,y _ (zl rfl (zD rfl)),t8,qn (by omega) rfl,rfl⟩
 ·have G:=xr e
  have w:n=l.length:=by omega
  subst w
  rw[zV] at k
  simp only[go_sem]
  exact⟨_,rfl,.inl ⟨rfl,k⟩⟩
theorem kCa{P:Program}{f:FuncId}{ar:List AV}{h:List Ob}{α:Type}{S:α->Prop}{g:α->List (List AV)}{e:Nat}(o:0<e)(s:∀q,qO h.length (g q)=true)(c:ACalls P f ar h λr h'=>∃q,S q/\∃L,h'=h++L/\NoRes L/\New h e r (g q) L):ACalls P f ar h λr h'=>(∃q,S q/\r= .sl e (g q))/\h'=h:=by
 refine⟨c.1,(let ⟨_,_,⟨q,i,_⟩,_⟩:=c.2.1;⟨_,_,⟨⟨q,i,rfl⟩,rfl⟩,.refl⟩),λφ j B w t vs m hB b=>?_⟩
 refine(c.2.2 φ j B w t vs m hB b).mono λu w' ⟨v,r,h',g',p,⟨q,i,L,n,_,k⟩,_,d,l⟩=>?_
 subst n
 rw[xc j] at d l
 have a:(fill φ h).length=h.length:=ju
 refine⟨v,_,h,g',p,⟨⟨q,i,rfl⟩,rfl⟩,.refl,d.drop rfl (by have:=m.ids;exact this),?_⟩
 exact J6 d.ok o l (k _ a) (λid hid=>by rw[a];exact k.root id hid) (by rw[a];exact s q)
def oj(o:List Spn × List Spn × List Spn):Nat->List Spn
 | 0=>o.1
 | 1=>o.2.1
 | _=>o.2.2
def XQ(s:Setup)(o:List Spn × List Spn × List Spn)(a:List Spn):Nat->List Pt
 | 0=>ZX a 0
 | j+1=>XQ s o a j++ZX (jD (oj o j) (j6 s (oj o j))) (1+j)++ZX (j6 s (oj o j)) (4+j)
def vr(s:Setup)(l:List Seg)(w:Int):List Pt:=XQ s (Jz s (yf s l) w) (jr (vY s l) w) 3
theorem V1(s:Setup)(l:List Spn):(j6 s l).length<=l.length+742:=by
 unfold j6
 split
 ·have e:=zca l (wm s (qR l))
  have a:=qm l
  have c:=qm (wm s (qR l))
  have b:=Ji s (qR l)
  have d:=yV l
  omega
 ·simp
theorem kDa(s:Setup)(p:List Spn)(w:Int):(Jz s p w).1.length<=p.length+372/\(Jz s p w).2.1.length<=2*p.length+745/\(Jz s p w).2.2.length<=2*p.length+745:=by
 have a:=yE (vD (jr p w)).1
 have f:=yF (jr p w) s.dayReg _ a
 have d:=yF (jr p w) s.dayOver _ a
 have k:=yV (jr p w)
 have j:(jr p w).length<=(qx p).length+1:=QD _ _ _
 have m:=qm p
 have n:(qP (ZW s (jr p w) (qR (jr p w))) s.weekReg).length<=(qx (ZW s (jr p w) (qR (jr p w)))).length:=xP _ _
 have i:=qm (ZW s (jr p w) (qR (jr p w)))
 have o:=xx (Qm s (jr p w) (qR (jr p w))) (qP (ZW s (jr p w) (qR (jr p w))) s.weekReg)
 have l:=xx (jr p w) (Qm s (jr p w) (qR (jr p w)))
 have h:=qm (Qm s (jr p w) (qR (jr p w)))
 have b:=qm (jr p w)
 have c:=qm (qP (ZW s (jr p w) (qR (jr p w))) s.weekReg)
 have g:(ZW s (jr p w) (qR (jr p w))).length<=(jr p w).length+(qR (jr p w)).length:=f
 have e:(Qm s (jr p w) (qR (jr p w))).length<=(jr p w).length+(qR (jr p w)).length:=d
 refine⟨?_,?_,?_⟩
 ·show(qP (ZW s (jr p w) (qR (jr p w))) s.weekReg).length<=_;omega
 ·show(jD (Qm s (jr p w) (qR (jr p w))) (qP (ZW s (jr p w) (qR (jr p w))) s.weekReg)).length<=_;omega
 ·show(jD (jr p w) (Qm s (jr p w) (qR (jr p w)))).length<=_;omega
theorem V5a(h:List Ob)(s:Setup)(a:SA)(k:SIn h s a)(f:SFit s)(u:z6 s=true)(x:AV)(l:List Seg)(w:Int)(hx:SlOf h x 5 (l.map ve))(hl:l.length<32768):
  ACalls Tryz.prog 57 [jg s a,x,i64 w] h λr h'=>∃q:List Pt,q.Perm (vr s l w)/\∃L,h'=h++L/\NoRes L/\New h 3 r (q.map ptC) L:=by
 have hex:∃r h',(∃q:List Pt,q.Perm (vr s l w)/\∃L,h'=h++L/\NoRes L/\New h 3 r (q.map ptC) L)/\ResK h h':=
  ⟨.sl 3 _,_,⟨_,.refl _,[],rfl,jm,λ_ _=>⟨rfl,λ_=>rfl⟩⟩,resK_app⟩
 refine zj Tryz.f57 [.tmp 6] 68 rfl rfl rfl rfl rfl rfl (by decide) (hex) λB=>?_
 simp only[go_sem,k.ones]
 refine zh (c16 _ s a (k.app _) f) ?_
 rintro _ H ⟨rfl,rfl⟩
 simp only[go_sem,u,qv,Bool.not_true]
 refine zh (job _ s a (k.app _) f u x l (hx.app _) hl) ?_
 rintro _ H ⟨rfl,rfl⟩
 simp only[go_sem]
 have ψ:=kAa s l
 have ω:=kBa s l
 refine zh (jpb _ s a (k.app _) f u _ (yf s l) w (j5 _) (by omega)) ?_
 rintro _ H ⟨rfl,rfl⟩
 simp only[go_sem]
 refine zh (yAa _ _ (vY s l) w (j5 _) (by omega)) ?_
 rintro _ H ⟨rfl,rfl⟩
 simp only[go_sem]
 obtain⟨o,ho⟩:∃o,o=Jz s (yf s l) w:=⟨_,rfl⟩
 obtain⟨b,y⟩:∃b,b=jr (vY s l) w:=⟨_,rfl⟩
 have β:vr s l w=XQ s o b 3:=by rw[ho,y];rfl
 have S:=kDa s (yf s l) w
 have ζ:b.length<=(qx (vY s l)).length+1:=by rw[y];exact QD _ _ _
 have μ:=qm (vY s l)
 rw[β]
 rw[<-ho] at S
 rw[<-ho, <-y]
 have E:∀j,(oj o j).length<=468401:=λj=>by
  unfold oj
  split<;>omega
 have p:∀j,(XQ s o b j).length<=240000+j*2000000:=λj=>by
  induction j with
  | zero=>show(ZX b 0).length<=_;rw[yW];omega
  | succ j ih=>
    have H:=xx (oj o j) (j6 s (oj o j))
    have A:=qm (oj o j)
    have h3:=qm (j6 s (oj o j))
    have h4:=V1 s (oj o j)
    have h5:=E j
    rw[XQ,zg,zg,yW,yW];omega
 have base:LIn [(h.length,Ob.box 30 (qg s a))] h (h++[.box 30 (qg s a),.box 126 [.v (.slice none 0 0)]]) (h.length+1) 126 194 3 (([]:List Pt).map ptC):=
  ⟨⟨_,rfl,zl rfl (zD rfl)⟩,by omega,(λz hz=>by rw[zW] at hz;subst hz;exact⟨by show h.length≠h.length+1;omega,⟨_,_,rfl⟩,by rw[zK rfl];rfl⟩),_,by rw[zG (k:=1) rfl];rfl,.inl ⟨rfl,rfl⟩⟩
 refine zh (zmb _ h _ (h.length+1) [] b 0 base (by decide) (by omega)) ?_
 rintro _ H ⟨rfl,k1⟩
 rw[List.nil_append] at k1
 simp only[go_sem]
 obtain⟨G,C⟩:∃G,G=AV.fn (.func 116) [] [.ptr (h.length+1) 0]:=⟨_,rfl⟩
 rw[<-C]
 refine zO (by decide) (λm T h'=>∃j:Nat,j<=3/\LIn [(h.length,Ob.box 30 (qg s a))] h h' (h.length+1) 126 194 3 ((XQ s o b j).map ptC)/\T 3= .ptr h.length 0/\T 12= .ptr (h.length+1) 0/\T 13=G/\T 43= .ag [spv o.1,spv o.2.1,spv o.2.2]/\T 44=i64 j/\m=3 - j) 3
  ⟨0,by omega,k1,by simp only[go_sem],by simp only[go_sem],by simp only[go_sem],by simp only[go_sem],by(simp only[go_sem]<;>rfl),rfl⟩ ?_
 clear k1 base
 rintro m T h' ⟨j,hj,k1,t3,d,i,K,t44,rfl⟩
 simp only[go_sem,t44]
 refine ways (λe=>?_) (λe=>?_)
 ·have R:(j:Int)<3:=of_decide_eq_true e
  have J:j<3:=by omega
  have c:nth [spv o.1,spv o.2.1,spv o.2.2] j=spv (oj o j):=by
   have:j=0∨j=1∨j=2:=by omega
   rcases this with rfl|rfl|rfl<;>rfl
  have I:=E j
  have ο:=p j
  have ι:=p (j+1)
  have V:h'[h.length]? =some (.box 30 (qg s a)):=k1.keep (.head _)
  obtain⟨O,hO⟩:∃O,O=oj o j:=⟨_,rfl⟩
  have X:XQ s o b (j+1)=XQ s o b j++ZX (jD O (j6 s O)) (1+j)++ZX (j6 s O) (4+j):=by rw[hO];rfl
  rw[<-hO] at c I
  simp only[go_sem,t3,i,K,t44,c,R,J,V,C,Nat.mul_one,Int.toNat_natCast,zf]
  refine zh (zkb _ s a (k1.pre.sin k) f _ O (j5 _) (by omega)) ?_
  rintro _ A ⟨rfl,rfl⟩
  have ρ:=V1 s O
  simp only[go_sem,i,C]
  refine zh (Kq _ _ _ O (j6 s O) (j5 _) (j5 _) (by omega) (by omega)) ?_
  rintro _ A ⟨rfl,rfl⟩
  have w1:IntKind.wrap .i64 (1+(j:Int))=1+(j:Int):=qq (n:=1+(j:Int)) (by unfold Fit;omega)
  have w2:IntKind.wrap .i64 (1+(j:Int)+3)=4+(j:Int):=(qq (n:=1+(j:Int)+3) (by unfold Fit;omega)).trans (by omega)
  have hml:=xx O (j6 s O)
  have ε:=qm O
  have δ:=qm (j6 s O)
  simp only[go_sem,i,C,w1]
  refine zh (zmb _ h _ (h.length+1) (XQ s o b j) (jD O (j6 s O)) (1+j) k1 (by omega) (by omega)) ?_
  rintro _ A ⟨rfl,k2⟩
  simp only[go_sem,i,C,w1,w2]
  refine zh (zmb _ h _ (h.length+1) _ (j6 s O) (4+j) k2 (by rw[zg,yW];omega) (by omega)) ?_
  rintro _ h3 ⟨rfl,k3⟩
  rw[<-X] at k3
  simp only[go_sem,t44]
  exact⟨3 - (j+1),by omega,j+1,by omega,k3,t3,d,by rw[i,C],K,qn (by omega) rfl,rfl⟩
 ·have τ:¬ (j:Int)<3:=of_decide_eq_false e
  have Y:j=3:=by omega
  subst Y
  obtain⟨x2,g,D⟩:=k1.at_
  have χ:=p 3
  have t:=k1.pre
  have ξ:AV.cells x2=some [x2]:=D.rows.cells
  rcases D with⟨rfl,M⟩|⟨id,st,u1,rfl,N⟩
  ·simp only[go_sem,d,g]
   refine zh (XSa _ _) ?_
   rintro _ A ⟨rfl,e2⟩
   rw[e2]
   simp only[go_sem,d,g]
   obtain⟨L,U,Z⟩:=t
   exact⟨_,rfl,.inl ⟨XQ s o b 3,.refl _,L,U,Z,by rw[M];exact λA _=>⟨rfl,λh=>absurd rfl h⟩⟩⟩
  ·simp only[go_sem,d,g]
   refine zh (V4a _ id st _ N (by omega)) ?_
   rintro _ A ⟨rfl,q,q1,q2,rfl⟩
   have P:id≠h.length+1:=λq=>by rw[q,g] at N;cases N
   have W:(h'.set id (.row 194 3 (q.map ptC) st))[h.length+1]? =some (.box 126 [.tl id st]):=by rw[zc P];exact g
   simp only[go_sem,d,W]
   have Q:Pre h (h'.set id (.row 194 3 (q.map ptC) st)):=t.set u1 rfl
   have F:OwnS h (h'.set id (.row 194 3 (q.map ptC) st)) 194 3 (.tl id st) (q.map ptC):= .inr ⟨id,st,u1,rfl,zo (zd.1 N).1⟩
   obtain⟨L,U,Z⟩:=Q
   rw[U] at F⊢
   exact⟨_,rfl,.inl ⟨q,q1,L,rfl,Z,F.new (zp _)⟩⟩
theorem znb(h:List Ob)(s:Setup)(a:SA)(k:SIn h s a)(f:SFit s)(b:z6 s=true)(x:AV)(l:List Seg)(w:Int)(c:SlOf h x 5 (l.map ve))(d:l.length<32768):
  ACalls Tryz.prog 57 [jg s a,x,i64 w] h λr h'=>(∃q:List Pt,q.Perm (vr s l w)/\r= .sl 3 (q.map ptC))/\h'=h:=
 kCa (by decide) (λq=>Ysa q) (V5a h s a k f b x l w c d)
end Go.Proofs.YtigdlmpjijhpaaaGreat.Ax
namespace Go.Proofs.YtigdlmpjijhpaaaGreat.Ax
open Go Go.Proofs
set_option maxRecDepth 100000
def yG(f:Nat->Int):List AV:=[i64 (f 0),i64 (f 1),i64 (f 2),i64 (f 3),i64 (f 4),i64 (f 5),i64 (f 6)]
theorem kEa(f:Nat->Int){k:Nat}(a:k<7)(v:Int):lay (yG f) k [i64 v]=some (yG λj=>if j=k then v else f j):=by
 have:k=0∨k=1∨k=2∨k=3∨k=4∨k=5∨k=6:=by omega
 rcases this with rfl|rfl|rfl|rfl|rfl|rfl|rfl<;>rfl
theorem XTa(f:Nat->Int){k:Nat}(a:k<7):nth (yG f) k=i64 (f k):=by
 have:k=0∨k=1∨k=2∨k=3∨k=4∨k=5∨k=6:=by omega
 rcases this with rfl|rfl|rfl|rfl|rfl|rfl|rfl<;>rfl
theorem zya(f:Nat->Int):cut (yG f) 0 7=some (yG f):=rfl
theorem kFa(f g:Nat->Int):lay (yG f) 0 (yG g)=some (yG g):=rfl
theorem XUa(f:Nat->Int):(yG f).all AV.one=true:=rfl
theorem XVa(f:Nat->Int):(yG f).length=7:=rfl
attribute [go_sem] zya kFa XUa XVa
def ptS(p:Pt):Spn:=⟨p.from_,p.to_⟩
def ym(q:List Pt)(k:Int):List Spn:=(q.filter λp=>p.kind==k).map ptS
theorem wsa(q:List Pt)(k:Int)(p:Pt):ym (q++[p]) k=if p.kind==k then ym q k++[ptS p] else ym q k:=by
 unfold ym
 rw[qo,zw]
 cases h:p.kind==k<;>simp[h]
theorem qZa(q:List Pt)(k:Int):(ym q k).length<=q.length:=by
 unfold ym
 rw[zb]
 exact qh _ q
def ZY(q:List Pt)(k:Int):Int:=jQ (qx (ym q k))
theorem zob{l:List Pt}{i:Nat}(h:i<l.length):(l.map ptC)[i]? =some (ptC l[i]):=by rw[zz,zi h];rfl
theorem wta{q:List Pt}{n:Nat}(h:n<q.length)(k:Int):ym (q.take (n+1)) k=if(q[n]).kind==k then ym (q.take n) k++[ptS q[n]] else ym (q.take n) k:=by
 rw[show q.take (n+1)=q.take n++[q[n]] from(zE h).symm,wsa]
theorem kQ{h0 h':List Ob}{i id:Nat}{ty e:Nat}{rows:List (List AV)}{st:Nat}{o:Ob}{t:TypeId}{cs:List AV}(b:h'[i]? =some (.box t cs))(a:h'[id]? =some (.row ty e rows st)):(h'.set id o)[i]? =some (.box t cs):=by
 have:id≠i:=λq=>by rw[q,b] at a;cases a
 rw[zc this];exact b
set_option maxHeartbeats 1000000 in
theorem V6a(h:List Ob)(x:AV)(q:List Pt)(O:SlOf h x 3 (q.map ptC))(X:q.length<1048576):
  ACalls Tryz.prog 56 [x] h λr h'=>r= .ag (yG λj=>ZY q j)/\h'=h:=by
 refine zj Tryz.f56 [.cell 2 42] 35 rfl rfl rfl rfl rfl rfl (by decide) (⟨_,_,⟨rfl,rfl⟩,.refl⟩) λB=>?_
 simp only[go_sem]
 refine zO (by decide) (λm T h'=>∃k:Nat,k<=7/\Pre h h'/\h'[h.length]? =some (.box 42 (yG λj=>if j<k then ZY q j else 0))/\T 0=x/\T 2= .ptr h.length 0/\T 7=i64 k/\m=7 - k) 7
  ⟨0,by omega,⟨_,rfl,zD rfl⟩,by rw[zK rfl];rfl,by simp only[go_sem],by simp only[go_sem],by(simp only[go_sem]<;>rfl),rfl⟩ ?_
 rintro m T h' ⟨k,hk,a,c,t0,t2,p,rfl⟩
 simp only[go_sem,p]
 refine ways (λe=>?_) (λe=>?_)
 ·have E:(k:Int)<7:=of_decide_eq_true e
  have u:k<7:=by omega
  have o:=(a.sl O).rows
  simp only[go_sem,t0,p,o,zb]
  refine zO (by decide) (λm T t=>∃n:Nat,n<=q.length/\Pre h t/\t[h.length]? =some (.box 42 (yG λj=>if j<k then ZY q j else 0))/\OwnS h t 143 2 (T 4) ((ym (q.take n) k).map qJ)/\T 0=x/\T 2= .ptr h.length 0/\T 3=i64 k/\T 7=i64 k/\T 10=x/\T 11=i64 q.length/\T 12=i64 n/\m=q.length - n) q.length
   ⟨0,by omega,a,c,.inl ⟨by simp only[go_sem],rfl⟩,by simp only[go_sem,t0],by simp only[go_sem,t2],by(simp only[go_sem]<;>rfl),by simp only[go_sem,p],by simp only[go_sem,t0],by(simp only[go_sem]<;>rfl),by(simp only[go_sem]<;>rfl),rfl⟩ ?_
  clear t0 t2 p o c a
  rintro m T t ⟨n,Y,a,c,A,t0,t2,t3,p,t10,l,d,rfl⟩
  simp only[go_sem,l,d]
  refine ways (λI=>?_) (λI=>?_)
  ·have f:=dlt I
   have z:=a.sl O
   have H:=z.at (i:=n) (by simpa using f)
   have o:=z.rows
   have g:=zob f
   have v:(n:Int)<q.length:=by omega
   have b:=wta f k
   obtain⟨y,W⟩:∃y,y=q[n]:=⟨_,rfl⟩
   rw[<-W] at g b
   have hA:List.length (ptC y)=3:=rfl
   have V:ptC y=[i64 y.from_,i64 y.to_,i64 y.kind]:=rfl
   rw[V] at g
   have fin:n+1<=q.length:=by omega
   simp only[go_sem,t3,t10,d,H,o,g,v,zb,Int.toNat_natCast,zf]
   refine ways (λw=>?_) (λw=>?_)
   ·rw[w] at b
    simp only[if_true] at b
    rcases A with⟨t4,C⟩|⟨id,st,Q,t4,U⟩
    ·simp only[go_sem,t4,d]
     refine⟨q.length - (n+1),by omega,n+1,fin,a.app (zl rfl (zl rfl (zD rfl))),ze c,.inr ⟨_,_,by have:=a.len;omega,rfl,?_⟩,t0,t2,t3,p,t10,l,qn (by omega) rfl,rfl⟩
     rw[b,zw,C,zG rfl]
     rfl
    ·have K:(((ym (q.take n) k).map qJ).length+1)*17<=140737488355328:=by
      have:=qZa (q.take n) k
      rw[zH] at this
      rw[zb];omega
     have J:∀M,(t++M)[id]? =some (.row 143 2 ((ym (q.take n) k).map qJ) st):=λM=>ze U
     simp only[go_sem,t4,d,J,K]
     refine⟨q.length - (n+1),by omega,n+1,fin,(a.app (zl rfl (zD rfl))).set Q rfl,kQ (h0:=h) (ze c) (J _),.inr ⟨id,st+1,Q,rfl,?_⟩,t0,t2,t3,p,t10,l,qn (by omega) rfl,rfl⟩
     rw[b,zw]
     exact zm (J _)
   ·have w:(y.kind==(k:Int))=false:=by simpa using w
    rw[w] at b
    simp only[Bool.false_eq_true,if_false] at b
    simp only[go_sem,d]
    exact⟨q.length - (n+1),by omega,n+1,fin,a.app (zD rfl),ze c,by rw[b];exact A.app _,t0,t2,t3,p,t10,l,qn (by omega) rfl,rfl⟩
  ·have G:=xr I
   have D:n=q.length:=by omega
   subst D
   rw[zV] at A
   have v:=qZa q k
   simp only[go_sem,t3]
   refine zh (yza _ (T 4) (ym q k) A.rows (by omega)) ?_
   rintro _ h3 ⟨rfl,R⟩
   rw[R]
   have s:=kEa (λj=>if j<k then ZY q j else 0) u (ZY q k)
   have N:(λj:Nat=>if j=k then ZY q k else if j<k then ZY q j else 0)=λj:Nat=>if j<k+1 then ZY q j else 0:=by
    funext j
    by_cases P:j=k
    ·subst P;rw[if_pos rfl,if_pos (by omega)]
    ·rw[if_neg P]
     by_cases t:j<k
     ·rw[if_pos t,if_pos (by omega)]
     ·rw[if_neg t,if_neg (by omega)]
   rw[N] at s
   rw[show jQ (qx (ym q k))=ZY q k from rfl]
   simp only[go_sem,t2,t3,p,c,s,E,u,Nat.mul_one,Nat.zero_add,Int.toNat_natCast,zf]
   exact⟨7 - (k+1),by omega,k+1,by omega,a.set (zp _) rfl,zm c,t0,qn (by omega) rfl,rfl⟩
 ·have G:¬ (k:Int)<7:=of_decide_eq_false e
  have F:k=7:=by omega
  subst F
  have c:h'[h.length]? =some (.box 42 (yG λj=>ZY q j)):=c
  simp only[go_sem,t2,c,zya,kFa]
  rw[qS c]
  obtain⟨L,S,Z⟩:=a
  refine⟨.ag (yG λj=>ZY q j),by simp only[go_sem,t2,c,zya],.inr ⟨h,L,S,rfl,rfl,.refl,rfl,rfl⟩⟩
def Jj(n:Int):Int:=min (max n 0) 604800
theorem kGa(n:Int):xy Tryz.prog 135 [i64 n] (i64 (Jj n)):=λh=>by
 refine zj Tryz.f135 [.tmp 2] 6 rfl rfl rfl rfl rfl rfl (by decide) (⟨_,_,⟨rfl,rfl⟩,.refl⟩) λB=>?_
 simp only[go_sem]
 refine zn ?_<;>(simp only[go_sem,Jj,Q5,Q6]<;>try rfl)
def qha(n d:Int):Int:=(K7 n d).1
theorem Yta(n d:Int):xy Tryz.prog 136 [i64 n,i64 d] (i64 (qha n d)):=λh=>by
 refine zj Tryz.f136 [.tmp 4] 14 rfl rfl rfl rfl rfl rfl (by decide) (⟨_,_,⟨rfl,rfl⟩,.refl⟩) λB=>?_
 simp only[go_sem]
 refine zh (c70 n d _) ?_
 rintro _ a ⟨rfl,rfl⟩
 simp only[go_sem,XN]
 refine zn ?_<;>(simp only[go_sem,qha]<;>try rfl)
def Kt(r k:Int):Int:=wr (r*wr (k+1))
def ZN(s:Setup)(r k:Int):Int:=if k>3 then wr (Kt r (k - 3)+wr (2*s.diff)) else Kt r k
theorem yMa(h:List Ob)(s:Setup)(a:SA)(k:SIn h s a)(r n:Int)(c:n<=3):
  ACalls Tryz.prog 137 [jg s a,i64 r,i64 n] h λb h'=>b=i64 (Kt r n)/\h'=h:=by
 have q:decide (n>3)=false:=by rw[decide_eq_false_iff_not];omega
 refine zj Tryz.f137 [.tmp 6] 22 rfl rfl rfl rfl rfl rfl (by decide) (⟨_,_,⟨rfl,rfl⟩,.refl⟩) λB=>?_
 simp only[go_sem,k.ones,q]
 refine zn ?_<;>(simp only[go_sem,Kt]<;>try rfl)
theorem zpb(h:List Ob)(s:Setup)(a:SA)(k:SIn h s a)(r n:Int)(e:n<=6):
  ACalls Tryz.prog 137 [jg s a,i64 r,i64 n] h λc h'=>c=i64 (ZN s r n)/\h'=h:=by
 by_cases b:n>3
 ·have q:decide (n>3)=true:=decide_eq_true b
  have w:IntKind.wrap .i64 (n - 3)=n - 3:=qq (n:=n - 3) (by unfold Fit;omega)
  refine zj Tryz.f137 [.tmp 6] 22 rfl rfl rfl rfl rfl rfl (by decide) (⟨_,_,⟨rfl,rfl⟩,.refl⟩) λB=>?_
  simp only[go_sem,k.ones,q]
  refine zQ rfl [] 0 [(1,0,[]),(2,0,[]),(3,0,[]),(5,0,[]),(0,0,[]),(6,0,[]),(7,0,[]),(4,0,[6]),(8,0,[]),(9,0,[])] rfl (by decide) (by decide) ?_
  simp only[go_sem,k.ones,w]
  refine zh (yMa _ s a (k.app _) r (n - 3) (by omega)) ?_
  rintro _ d ⟨rfl,rfl⟩
  simp only[go_sem,k.ones,w]
  refine zn ?_<;>(simp only[go_sem,ZN,b]<;>try rfl)
 ·refine(yMa h s a k r n (by omega)).mono ?_
  rintro c h' ⟨rfl,rfl⟩
  exact⟨by unfold ZN;rw[if_neg b],rfl⟩
def upI(n d:Int):Int × Int:=if d<=0 then(0,20) else if(kD n d).2>0 then(wr ((kD n d).1+1),0) else((kD n d).1,0)
theorem cUp(n d:Int):xy Tryz.prog 139 [i64 n,i64 d] (XN (upI n d)):=λh=>by
 refine zj Tryz.f139 [.tmp 4,.tmp 5] 21 rfl rfl rfl rfl rfl rfl (by decide) (⟨_,_,⟨rfl,rfl⟩,.refl⟩) λB=>?_
 simp only[go_sem]
 refine ways (λe=>?_) (λe=>?_)
 ·have a:d<=0:=of_decide_eq_true e
  simp only[go_sem]
  refine zn ?_<;>(simp only[go_sem,upI,a,XN]<;>try rfl)
 ·have a:¬ d<=0:=of_decide_eq_false e
  simp only[go_sem]
  refine zh (c97 n d (by omega) _) ?_
  rintro _ f ⟨rfl,rfl⟩
  simp only[go_sem,XN]
  refine ways (λc=>?_) (λc=>?_)
  ·have b:(kD n d).2>0:=of_decide_eq_true c
   simp only[go_sem]
   refine zn ?_<;>(simp only[go_sem,upI,a,b,XN]<;>try rfl)
  ·have b:¬ (kD n d).2>0:=of_decide_eq_false c
   simp only[go_sem]
   refine zn ?_<;>(simp only[go_sem,upI,a,b,XN]<;>try rfl)
def Ku:Int->List Int->Int × Int
 | a,[]=>(a,0)
 | a,x::r=>if(decide (x>0)==decide (wr (a+x)>a)) || x==0 then Ku (wr (a+x)) r else(0,10)
theorem xVb(h:List Ob)(x:AV)(l:List Int)(g:SlOf h x 1 (l.map qz))(t:l.length<1048576):
  ACalls Tryz.prog 138 [x] h λr h'=>r=XN (Ku 0 l)/\h'=h:=by
 refine zj Tryz.f138 [.tmp 2,.tmp 3] 30 rfl rfl rfl rfl rfl rfl (by decide) (⟨_,_,⟨rfl,rfl⟩,.refl⟩) λB=>?_
 simp only[go_sem]
 refine zga (by decide) ?_
 simp only[go_sem,g.rows,zb]
 refine zO (by decide) (λm T h'=>∃(i:Nat) (k:Int),i<=l.length/\h'=h/\Ku 0 l=Ku k (l.drop i)/\T 4=i64 k/\T 8=x/\T 9=i64 l.length/\T 10=i64 i/\m=l.length - i) l.length
  ⟨0,0,by omega,rfl,rfl,by(simp only[go_sem]<;>rfl),by simp only[go_sem],by(simp only[go_sem]<;>rfl),by(simp only[go_sem]<;>rfl),rfl⟩ ?_
 rintro m T h' ⟨i,k,hi,rfl,a,t4,t8,t9,t10,rfl⟩
 simp only[go_sem,t9,t10]
 refine ways (λe=>?_) (λe=>?_)
 ·have d:=dlt e
  have c:=XE d
  have n:=g.at (i:=i) (by rw[zb];exact d)
  have j:=g.rows
  have o:(i:Int)<l.length:=by omega
  rw[qU d,Ku] at a
  obtain⟨z,s⟩:∃z,z=l[i]:=⟨_,rfl⟩
  rw[<-s] at c a
  simp only[go_sem,t4,t8,t10,n,j,c,o,zb,Int.toNat_natCast,zf]
  obtain⟨b,f⟩:∃b:Bool,b=(decide (z>0)==decide (wr (k+z)>k)):=⟨_,rfl⟩
  rw[<-f] at a
  rw[show(decide (z>0)==decide (IntKind.i64.wrap (k+z)>k))=b from f.symm]
  cases b
  ·cases h0:z==0
   ·rw[h0] at a
    simp only[Bool.or_self,Bool.false_eq_true,if_false] at a
    simp only[go_sem,h0,qv, <-f]
    refine zn ?_<;>(simp only[go_sem,a,XN]<;>try rfl)
   ·rw[h0] at a
    simp only[Bool.or_true,if_true] at a
    simp only[go_sem,h0,qv, <-f,t10]
    exact⟨l.length - (i+1),by omega,i+1,_,by omega,a,rfl,t8,t9,qn (by omega) rfl,rfl⟩
  ·simp only[Bool.true_or,if_true] at a
   simp only[go_sem,qv, <-f,t10]
   exact⟨l.length - (i+1),by omega,i+1,_,by omega,a,rfl,t8,t9,qn (by omega) rfl,rfl⟩
 ·have q:=xr e
  have p:i=l.length:=by omega
  subst p
  rw[List.drop_length,Ku] at a
  simp only[go_sem,t4]
  refine zn ?_<;>(simp only[go_sem,a,XN]<;>try rfl)
