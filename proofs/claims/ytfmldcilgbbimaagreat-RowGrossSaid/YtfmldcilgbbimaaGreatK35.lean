/-
  Joined.
-/
import Derived.Test.YtfmldcilgbbimaaGreatK34
import Derived.Test.YtfmldcilgbbimaaGreatK23
import Derived.Test.YtfmldcilgbbimaaGreatK33
import Derived.Test.YtfmldcilgbbimaaGreatK22
set_option linter.unusedSimpArgs false
set_option linter.unusedVariables false
namespace Go.Proofs.YtfmldcilgbbimaaGreat.Ax
open Go Go.Proofs
set_option maxRecDepth 100000
theorem X4 (h:List Ob) (id:Nat) (x y:AV) (a b:List Spn) (e:h[id]? =some (.row 55 1 [[x],[y]] 0)) (f:SlOf h x 2 (a.map zD)) (g:SlOf h y 2 (b.map zD)) (j:a.length<268435456) (i:b.length<268435456):
  ACalls Tryz.prog 170 [.tl id 0] h λr h'=>r=spv (a++b)/\h'=h:=by
 have d:vl [(x,a),(y,b)]=a++b:=by simp[vl]
 have q:=xy (by decide) (w9 _) (kNa h (.tl id 0) [(x,a),(y,b)] ⟨by rw[zO,e];rfl,λ_=>by rw[qJ,e];rfl⟩
  (λq c=>by rcases List.mem_cons.1 c with rfl | c;exact f;rw[List.mem_singleton] at c;subst c;exact g) (by show 2<1048576;decide) (by rw[d,List.length_append];omega))
 rw[d] at q
 exact q
theorem k0a (h:List Ob) (x:AV) (l:List Seg) (a:SlOf h x 5 (l.map j7)) (b:l.length<1048576):
  ACalls Tryz.prog 24 [x] h λr h'=>r=spv (zI l)/\h'=h:=xy (by decide) (w9 _) (c31 h x l a b)
theorem QIa (h:List Ob) (x:AV) (l:List Seg) (k:Int) (a:SlOf h x 5 (l.map j7)) (b:l.length<1048576):
  ACalls Tryz.prog 221 [x,i64 k] h λr h'=>r=spv (xG l k)/\h'=h:=xy (by decide) (w9 _) (c32 h x l k a b)
theorem X5 (l:List Spn) (n:Int):(ZM l n).length<=2*l.length+1:=by
 unfold ZM
 split
 ·simp
 ·have d:=qK l (zE l (qq (zw l) - min n 32054400))
  have a:=zq l
  have b:=zq (zE l (qq (zw l) - min n 32054400))
  have c:(zE l (qq (zw l) - min n 32054400)).length<=(zw l).length:=qW _ _
  omega
def wl (s:Setup) (c b:List Spn):List Spn:=if s.autoAfter<=qq (zw c)/\qq (zw b)<s.autoBreak then ZM (qf c b) (s.autoBreak - qq (zw b)) else []
def xO (s:Setup) (c b:List Spn):List Spn:=zw (qf b (zE b s.paidBreak)++wl s c b)
theorem ZR (s:Setup) (c b:List Spn):(xO s c b).length<=2*c.length+4*b.length+4:=by
 have j:=qK b (zE b s.paidBreak)
 have d:=zq (zE b s.paidBreak)
 have i:=zq b
 have g:(zE b s.paidBreak).length<=(zw b).length:=qW _ _
 have e:(wl s c b).length<=2*(qf c b).length+1:=by
  unfold wl
  split
  ·exact X5 _ _
  ·simp
 have a:=qK c b
 have f:=zq c
 have h:=zq (qf b (zE b s.paidBreak)++wl s c b)
 rw[List.length_append] at h
 unfold xO
 omega
theorem wya (h:List Ob) (s:Setup) (a:SA) (k:SIn h s a) (t:Times s) (x y:AV) (c b:List Spn) (u:SlOf h x 2 (c.map zD)) (i:SlOf h y 2 (b.map zD)) (J:c.length<65536) (K:b.length<65536):
  ACalls Tryz.prog 220 [qh s a,x,y] h λr h'=>r=spv (xO s c b)/\h'=h:=by
 refine zf Tryz.f220 [.tmp 6] 41 rfl rfl rfl rfl rfl rfl (by decide) (⟨_,_,⟨rfl,rfl⟩,.refl⟩) λB=>?_
 simp only[go_sem,k.ones]
 have w:∀M,(h++[Ob.box 30 (zr s a)]++M)[h.length]? =some (.box 30 (zr s a)):=λM=>by rw[List.append_assoc,zm rfl];rfl
 refine zd (VT _ y b _ (i.app _) (by omega) (by have:=t.paidBreak;unfold Fit;omega)) ?_
 rintro _ e ⟨rfl,rfl⟩
 simp only[go_sem]
 refine zd (ZP _ y _ b _ (i.app _) (qx _) (by omega) (by have:=qW (zw b) s.paidBreak;have:=zq b;unfold zE;omega)) ?_
 rintro _ e ⟨rfl,rfl⟩
 simp only[go_sem]
 refine zd (qra _ y b (i.app _) (by omega)) ?_
 rintro _ e ⟨rfl,rfl⟩
 simp only[go_sem]
 refine zp rfl [] 0 [(0,0,[]),(2,0,[]),(3,0,[]),(1,0,[3]),(4,0,[]),(5,0,[]),(6,0,[]),(7,0,[]),(8,0,[]),(9,0,[]),(10,0,[])] rfl (by decide) (by decide) ?_
 simp only[go_sem]
 refine zd (qra _ x c (u.app _) (by omega)) ?_
 rintro _ e ⟨rfl,rfl⟩
 have L:=qK b (zE b s.paidBreak)
 have p:=qW (zw b) s.paidBreak
 have H:=zq (zE b s.paidBreak)
 have z:=zq b
 have G:(zE b s.paidBreak).length<=(zw b).length:=p
 cases g:decide (qq (zw c)≥s.autoAfter)
 ·have d:wl s c b=[]:=by unfold wl;rw[if_neg];exact λq=>(of_decide_eq_false g) q.1
  have f:xO s c b=zw (qf b (zE b s.paidBreak)):=by unfold xO;rw[d,List.append_nil]
  simp only[go_sem,g,zM]
  refine zd (yO _ _ (qf b (zE b s.paidBreak)) (qx _) (by omega)) ?_
  rintro _ e ⟨rfl,rfl⟩
  rw[<-f]
  simp only[go_sem]
  exact ⟨_,by simp only[go_sem],.inr ⟨h,_,rfl,rfl,yN _,.refl,rfl,rfl⟩⟩
 ·have m:s.autoAfter<=qq (zw c):=of_decide_eq_true g
  cases j:decide (qq (zw b)<s.autoBreak)
  ·have d:wl s c b=[]:=by unfold wl;rw[if_neg];exact λq=>(of_decide_eq_false j) q.2
   have f:xO s c b=zw (qf b (zE b s.paidBreak)):=by unfold xO;rw[d,List.append_nil]
   simp only[go_sem,g,j,zM]
   refine zd (yO _ _ (qf b (zE b s.paidBreak)) (qx _) (by omega)) ?_
   rintro _ e ⟨rfl,rfl⟩
   rw[<-f]
   simp only[go_sem]
   exact ⟨_,by simp only[go_sem],.inr ⟨h,_,rfl,rfl,yN _,.refl,rfl,rfl⟩⟩
  ·have o:qq (zw b)<s.autoBreak:=of_decide_eq_true j
   have d:wl s c b=ZM (qf c b) (s.autoBreak - qq (zw b)):=by unfold wl;rw[if_pos ⟨m,o⟩]
   simp only[go_sem,g,j,zM]
   refine zp rfl [.res] 1 [(0,0,[]),(1,0,[]),(2,0,[]),(4,0,[]),(6,0,[]),(5,0,[]),(7,0,[]),(3,0,[5]),(8,0,[]),(9,0,[]),(10,0,[]),(11,0,[])] rfl (by decide) (by decide) ?_
   simp only[go_sem]
   refine zd (ZP _ x y c b (u.app _) (i.app _) (by omega) (by omega)) ?_
   rintro _ e ⟨rfl,rfl⟩
   have v:=qK c b
   have I:=zq c
   have A:=XK (l:=zw b) (λs C=>jI s C)
   have D:=t.autoBreak
   have E:IntKind.wrap .i64 (s.autoBreak - qq (zw b))=s.autoBreak - qq (zw b):=zt (n:=s.autoBreak - qq (zw b)) (by unfold Fit;omega)
   simp only[go_sem,E]
   refine zd (QEa _ _ (qf c b) (s.autoBreak - qq (zw b)) (qx _) (by omega) (by unfold Fit;omega)) ?_
   rintro _ e ⟨rfl,rfl⟩
   rw[<-d]
   have F:(wl s c b).length<1048576:=by
    have:=X5 (qf c b) (s.autoBreak - qq (zw b))
    rw[d];omega
   simp only[go_sem]
   refine zd (X4 _ (h.length+1) _ _ (qf b (zE b s.paidBreak)) (wl s c b) (by rw[zl (k:=1) rfl];rfl) (qx _) (qx _) (by omega) (by omega)) ?_
   rintro _ e ⟨rfl,rfl⟩
   simp only[go_sem]
   refine zd (yO _ _ (qf b (zE b s.paidBreak)++wl s c b) (qx _) (by rw[List.length_append];omega)) ?_
   rintro _ e ⟨rfl,rfl⟩
   rw[show zw (qf b (zE b s.paidBreak)++wl s c b)=xO s c b from rfl]
   simp only[go_sem]
   exact ⟨_,by simp only[go_sem],.inr ⟨h,_,rfl,rfl,yN _,.refl,rfl,rfl⟩⟩
theorem qAa {n:Nat} (a b:List Spn):(AV.tup [spv a,spv b]).lt n=true:=by
 simp only[AV.lt,zP,yN,Bool.and_self]
theorem wza {n:Nat} (a b c:List Spn):(AV.tup [spv a,spv b,spv c]).lt n=true:=by
 simp only[AV.lt,zP,yN,Bool.and_self]
def jX (s:Setup) (l:List Seg) (d:Int):List Spn:=xO s (qO (zI l) d) (qO (xG l 3) d)
def je (s:Setup) (l:List Seg) (d:Int):List Spn:=qf (qO (zI l) d) (jX s l d)
theorem vp (l:List Seg):(zI l).length<=l.length:=by
 have:=zq (l.map spS)
 rw[List.length_map] at this
 exact this
theorem QA (l:List Seg) (k:Int):(xG l k).length<=l.length:=by
 have a:=zq ((l.filter λg=>g.kind==k).map spS)
 have b:=List.length_filter_le (λg:Seg=>g.kind==k) l
 rw[List.length_map] at a
 unfold xG;omega
theorem wH (l:List Spn) (d:Int):(qO l d).length<=l.length+1:=by
 have a:=wE l d 86400
 have b:=zq l
 unfold qO;omega
theorem Zh (s:Setup) (l:List Seg) (d:Int):(jX s l d).length<=6*l.length+10:=by
 have e:=ZR s (qO (zI l) d) (qO (xG l 3) d)
 have a:=wH (zI l) d
 have f:=wH (xG l 3) d
 have b:=vp l
 have c:=QA l 3
 unfold jX;omega
theorem Ju (s:Setup) (l:List Seg) (d:Int):(je s l d).length<=7*l.length+12:=by
 have e:=qK (qO (zI l) d) (jX s l d)
 have a:=wH (zI l) d
 have f:=Zh s l d
 have b:=vp l
 have c:=zq (qO (zI l) d)
 have g:=zq (jX s l d)
 unfold je;omega
theorem jZa (h:List Ob) (s:Setup) (a:SA) (k:SIn h s a) (f:SFit s) (c:zz s=true) (x:AV) (l:List Seg) (d:Int) (e:SlOf h x 5 (l.map j7)) (m:l.length<32768):
  ACalls Tryz.prog 166 [qh s a,x,i64 d] h λr h'=>r= .tup [spv (je s l d),spv (jX s l d)]/\h'=h:=by
 have b:=vp l
 have g:=QA l 3
 have n:=wH (zI l) d
 have i:=wH (xG l 3) d
 have j:=Zh s l d
 refine zf Tryz.f166 [.tmp 6,.tmp 7] 28 rfl rfl rfl rfl rfl rfl (by decide) (⟨_,_,⟨rfl,rfl⟩,.refl⟩) λB=>?_
 simp only[go_sem,k.ones]
 refine zd (c16 _ s a (k.app _) f) ?_
 rintro _ b ⟨rfl,rfl⟩
 simp only[go_sem,c,zM,Bool.not_true]
 refine zd (k0a _ x l (e.app _) (by omega)) ?_
 rintro _ b ⟨rfl,rfl⟩
 simp only[go_sem]
 refine zd (zCa _ _ (zI l) d (qx _) (by omega)) ?_
 rintro _ b ⟨rfl,rfl⟩
 simp only[go_sem]
 refine zp rfl [] 0 [(1,0,[]),(2,0,[]),(4,0,[]),(0,0,[]),(3,0,[0]),(5,0,[0]),(6,0,[]),(7,0,[])] rfl (by decide) (by decide) ?_
 simp only[go_sem,k.ones]
 refine zd (QIa _ x l 3 (e.app _) (by omega)) ?_
 rintro _ b ⟨rfl,rfl⟩
 simp only[go_sem]
 refine zd (zCa _ _ (xG l 3) d (qx _) (by omega)) ?_
 rintro _ b ⟨rfl,rfl⟩
 simp only[go_sem]
 refine zd (wya _ s a (k.app _) (Q0 c) _ _ (qO (zI l) d) (qO (xG l 3) d) (qx _) (qx _) (by omega) (by omega)) ?_
 rintro _ b ⟨rfl,rfl⟩
 rw[show xO s (qO (zI l) d) (qO (xG l 3) d)=jX s l d from rfl]
 simp only[go_sem]
 refine zd (ZP _ _ _ (qO (zI l) d) (jX s l d) (qx _) (qx _) (by omega) (by omega)) ?_
 rintro _ b ⟨rfl,rfl⟩
 rw[show qf (qO (zI l) d) (jX s l d)=je s l d from rfl]
 simp only[go_sem]
 exact ⟨_,by simp only[go_sem],.inr ⟨h,_,rfl,rfl,qAa _ _,.refl,rfl,rfl⟩⟩
structure L2 (F:List (Nat × Ob)) (h0 h:List Ob) (i j bty ty e:Nat) (r1 r2:List (List AV)):Prop where
 pre:Pre h0 h
 li:h0.length<=i
 lj:h0.length<=j
 ne:i≠j
 kept:∀z∈F,z.1≠i/\z.1≠j/\(∃t cs,z.2= .box t cs)/\h[z.1]? =some z.2
 at_:∃x y,h[i]? =some (.box bty [x])/\h[j]? =some (.box bty [y])/\OwnS h0 h ty e x r1/\OwnS h0 h ty e y r2/\∀a s b t,x= .tl a s->y= .tl b t->a≠b
def BoxK (i j:Nat) (h m:List Ob):Prop:=∀(z:Nat) (t:TypeId) (a:List AV),z≠i->z≠j->h[z]? =some (.box t a)->m[z]? =some (.box t a)
theorem BoxK.app {i j:Nat} {h M:List Ob}:BoxK i j h (h++M):=λz t a _ _ q=>zb q
theorem BoxK.trans {i j:Nat} {a b c:List Ob} (h:BoxK i j a b) (k:BoxK i j b c):BoxK i j a c:=λz t f d e q=>k z t f d e (h z t f d e q)
theorem BoxK.setR {i j id:Nat} {a:List Ob} {o:Ob} {ty e:Nat} {rows:List (List AV)} {st:Nat} (b:a[id]? =some (.row ty e rows st)):BoxK i j a (a.set id o):=λz t c _ _ q=>by
 have:id≠z:=λe=>by rw[e,q] at b;cases b
 rw[List.getElem?_set_ne this];exact q
theorem OwnS.setB {h0 h:List Ob} {ty e:Nat} {x:AV} {rows:List (List AV)} (k:OwnS h0 h ty e x rows) {i:Nat} {o:Ob} {t:TypeId} {f:List AV} (a:h[i]? =some (.box t f)):OwnS h0 (h.set i o) ty e x rows:=by
 rcases k with ⟨rfl,d⟩ | ⟨id,st,c,rfl,b⟩
 ·exact .inl ⟨rfl,d⟩
 ·refine .inr ⟨id,st,c,rfl,?_⟩
  have:i≠id:=λe=>by rw[e,b] at a;cases a
  rw[List.getElem?_set_ne this];exact b
theorem L2.fin {F:List (Nat × Ob)} {h0 h m:List Ob} {i j bty ty e:Nat} {C u d f:List (List AV)} (k:L2 F h0 h i j bty ty e C u) (H:Pre h0 m) (G:BoxK i j h m) {x' y':AV} (w:∃x,m[i]? =some (.box bty [x])) (B:∃x,m[j]? =some (.box bty [x]))
  (A:OwnS h0 m ty e x' d) (D:OwnS h0 m ty e y' f) (p:∀a s b t,x'= .tl a s->y'= .tl b t->a≠b):L2 F h0 ((m.set i (.box bty [x'])).set j (.box bty [y'])) i j bty ty e d f:=by
 obtain ⟨x,n⟩:=w
 obtain ⟨y,E⟩:=B
 have g:(m.set i (.box bty [x']))[i]? =some (.box bty [x']):=List.getElem?_set_self (List.getElem?_eq_some_iff.1 n).1
 have c:(m.set i (.box bty [x']))[j]? =some (.box bty [y]):=by rw[List.getElem?_set_ne k.ne];exact E
 refine ⟨(H.set k.li rfl).set k.lj rfl,k.li,k.lj,k.ne,λz v=>?_,x',y',?_,List.getElem?_set_self (List.getElem?_eq_some_iff.1 c).1,(A.setB n).setB c,(D.setB n).setB c,p⟩
 ·obtain ⟨o,l,⟨t,I,r⟩,q⟩:=k.kept z v
  refine ⟨o,l,⟨t,I,r⟩,?_⟩
  rw[r] at q⊢
  rw[List.getElem?_set_ne (Ne.symm l),List.getElem?_set_ne (Ne.symm o)]
  exact G _ _ _ o l q
 ·rw[List.getElem?_set_ne k.ne.symm];exact g
theorem L2.any {F:List (Nat × Ob)} {h0 h:List Ob} {i j bty ty e:Nat} {l o:List (List AV)} (k:L2 F h0 h i j bty ty e l o) (d c:List (List AV)):∃h',L2 F h0 h' i j bty ty e d c/\ResK h h':=by
 obtain ⟨x,y,n,r,_⟩:=k.at_
 have p:=k.pre.len
 have q:=k.fin (m:=h++[.row ty e d 0,.row ty e c 0]) (k.pre.app (zg rfl (zj rfl))) .app (x':= .tl h.length 0) (y':= .tl (h.length+1) 0) ⟨x,zb n⟩ ⟨y,zb r⟩
  (.inr ⟨_,_,p,rfl,by rw[zm rfl];rfl⟩) (.inr ⟨_,_,by omega,rfl,by rw[zl (k:=1) rfl];rfl⟩) (λa s b t g f=>by injection g with g;injection f with f;omega)
 exact ⟨_,q,k.pre.resK q.pre⟩
theorem Zja (F:List (Nat × Ob)) (h0 h:List Ob) (i j u v:Nat) (s:Setup) (a:SA) (x:AV) (l:List Seg) (p q:List Spn) (d:Int) (k:L2 F h0 h i j 55 134 2 (p.map zD) (q.map zD)) (ks:SIn h s a) (f:SFit s) (S:zz s=true)
  (hu:(u,Ob.box 30 (zr s a))∈F) (hv:(v,Ob.box 51 [x])∈F) (hx:SlOf h x 5 (l.map j7)) (O:l.length<32768) (hp:p.length<4294967296) (hq:q.length<4294967296):
  ACalls Tryz.prog 165 [i64 d,.ptr u 0,.ptr v 0,.ptr i 0,.ptr j 0] h λr h'=>r= .tup []/\L2 F h0 h' i j 55 134 2 ((p++je s l d).map zD) ((q++jX s l d).map zD):=by
 have hex:∃r h',(r=AV.tup []/\L2 F h0 h' i j 55 134 2 ((p++je s l d).map zD) ((q++jX s l d).map zD))/\ResK h h':=by
  obtain ⟨h',q1,q2⟩:=k.any ((p++je s l d).map zD) ((q++jX s l d).map zD)
  exact ⟨_,h',⟨rfl,q1⟩,q2⟩
 have X:=(k.kept _ hu).2.2.2
 have V:=(k.kept _ hv).2.2.2
 obtain ⟨y,z,n,m,oy,Z,T⟩:=k.at_
 have W:=hx.cells
 have κ:=Ju s l d
 have ν:=Zh s l d
 have E:=VV (je s l d)
 have D:=VV (jX s l d)
 have c1:(p.length+(je s l d).length)*17<=140737488355328:=by omega
 have c2:(q.length+(jX s l d).length)*17<=140737488355328:=by omega
 have c3:(je s l d).length*17<=140737488355328:=by omega
 have c4:(jX s l d).length*17<=140737488355328:=by omega
 refine zf Tryz.f165 [] 21 rfl rfl rfl rfl rfl rfl (by decide) (hex) λB=>?_
 simp only[go_sem,X,V,ks.ones,W]
 refine zd (jZa h s a ks f S x l d hx O) ?_
 rintro _ H ⟨rfl,rfl⟩
 simp only[go_sem]
 refine zp rfl [] 0 [(1,0,[]),(4,0,[]),(0,0,[]),(3,0,[]),(2,0,[3]),(5,0,[]),(6,0,[]),(7,0,[])] rfl (by decide) (by decide) ?_
 have e:∀M,(H++M)[i]? =some (.box 55 [y]):=λM=>zb n
 have c:∀M,(H++M)[j]? =some (.box 55 [z]):=λM=>zb m
 have ο:=oy.rows.cells
 have μ:=Z.rows.cells
 have R:i≠j:=k.ne
 have C:j≠i:=k.ne.symm
 have O:=k.pre.len
 have hi:i<H.length:=(List.getElem?_eq_some_iff.1 n).1
 have hj:j<H.length:=(List.getElem?_eq_some_iff.1 m).1
 rcases oy with ⟨rfl,β⟩ | ⟨ia,sa,Q,rfl,A⟩
 ·have Y:p=[]:=by simpa using β
  subst Y
  rcases Z with ⟨rfl,J⟩ | ⟨ib,sb,v1,rfl,v3⟩
  ·have I:q=[]:=by simpa using J
   subst I
   simp only[go_sem,n,m,e,c,E,D,c3,c4,List.length_map,List.getElem?_set_ne,R,C,ne_eq,not_false_eq_true]
   exact ⟨_,rfl,.inl ⟨rfl,k.fin (k.pre.app (zg rfl (zj rfl))) .app ⟨_,e _⟩ ⟨_,c _⟩ (.inr ⟨_,_,O,rfl,by rw[zm rfl];rfl⟩) (.inr ⟨_,_,by omega,rfl,by rw[zl (k:=1) rfl];rfl⟩) (λa s b t w g=>by injection w with w;injection g with g;omega)⟩⟩
  ·have G:∀M,(H++M)[ib]? =some (.row 134 2 (q.map zD) sb):=λM=>zb v3
   have n1:ib≠i:=λq=>by rw[q,n] at v3;cases v3
   have n2:ib≠j:=λq=>by rw[q,m] at v3;cases v3
   have U:=(List.getElem?_eq_some_iff.1 v3).1
   simp only[go_sem,n,m,e,c,E,D,c2,c3,G,v3,List.length_map,List.getElem?_set_ne,R,C,n1,n2,ne_eq,not_false_eq_true]
   refine ⟨_,rfl,.inl ⟨rfl,k.fin ((k.pre.app (zj rfl)).set v1 rfl) (BoxK.app.trans (.setR (G _))) ⟨_,(List.getElem?_set_ne n1).trans (e _)⟩ ⟨_,(List.getElem?_set_ne n2).trans (c _)⟩ (.inr ⟨_,_,O,rfl,?_⟩) (.inr ⟨_,_,v1,rfl,?_⟩) (λa s b t w g=>by injection w with w;injection g with g;omega)⟩⟩
   ·rw[List.getElem?_set_ne (by omega),zm rfl];rfl
   ·rw[List.getElem?_set_self (by rw[List.length_append];omega), <-List.map_append]
 ·have L:∀M,(H++M)[ia]? =some (.row 134 2 (p.map zD) sa):=λM=>zb A
  have n3:ia≠i:=λq=>by rw[q,n] at A;cases A
  have n4:ia≠j:=λq=>by rw[q,m] at A;cases A
  have P:=(List.getElem?_eq_some_iff.1 A).1
  rcases Z with ⟨rfl,J⟩ | ⟨ib,sb,v1,rfl,v3⟩
  ·have I:q=[]:=by simpa using J
   subst I
   have N:∀o M,(H.set ia o++M)[i]? =some (.box 55 [.tl ia sa]):=λo M=>zb ((List.getElem?_set_ne n3).trans n)
   have K:∀o M,(H.set ia o++M)[j]? =some (.box 55 [.v (.slice none 0 0)]):=λo M=>zb ((List.getElem?_set_ne n4).trans m)
   simp only[go_sem,n,m,e,c,N,K,E,D,c1,c4,L,A,List.length_map,List.getElem?_set_ne,R,C,n3,n4,ne_eq,not_false_eq_true]
   refine ⟨_,rfl,.inl ⟨rfl,k.fin ((k.pre.set Q rfl).app (zj rfl)) (BoxK.trans (.setR A) .app) ⟨_,N _ _⟩ ⟨_,K _ _⟩ (.inr ⟨_,_,Q,rfl,?_⟩) (.inr ⟨_,_,O,rfl,?_⟩) (λa s b t w g=>by injection w with w;injection g with g;omega)⟩⟩
   ·refine zb ?_
    rw[List.getElem?_set_self P, <-List.map_append]
   ·rw[zm (by rw[List.length_set])];rfl
  ·have G:∀M,(H++M)[ib]? =some (.row 134 2 (q.map zD) sb):=λM=>zb v3
   have n1:ib≠i:=λq=>by rw[q,n] at v3;cases v3
   have n2:ib≠j:=λq=>by rw[q,m] at v3;cases v3
   have n5:ia≠ib:=T _ _ _ _ rfl rfl
   have U:=(List.getElem?_eq_some_iff.1 v3).1
   simp only[go_sem,n,m,e,c,E,D,c1,c2,L,G,A,v3,List.length_map,List.getElem?_set_ne,R,C,n1,n2,n3,n4,n5,ne_eq,not_false_eq_true]
   refine ⟨_,rfl,.inl ⟨rfl,k.fin ((k.pre.set Q rfl).set v1 rfl) (BoxK.trans (.setR A) (.setR ((List.getElem?_set_ne n5).trans v3))) ⟨_,(List.getElem?_set_ne n1).trans ((List.getElem?_set_ne n3).trans n)⟩ ⟨_,(List.getElem?_set_ne n2).trans ((List.getElem?_set_ne n4).trans m)⟩ (.inr ⟨_,_,Q,rfl,?_⟩) (.inr ⟨_,_,v1,rfl,?_⟩) (λa s b t w g=>by injection w with w;injection g with g;omega)⟩⟩
   ·rw[List.getElem?_set_ne n5.symm,List.getElem?_set_self P, <-List.map_append]
   ·rw[List.getElem?_set_self (by rw[List.length_set];omega), <-List.map_append]
def vO (s:Setup) (l:List Seg):List Spn:=zw ((zF (zI l)).flatMap (je s l))
def xP (s:Setup) (l:List Seg):List Spn:=zw ((zF (zI l)).flatMap (jX s l))
theorem X6 {f:Int->List Spn} {m:Nat} (a:∀d,(f d).length<=m):∀l:List Int,(l.flatMap f).length<=m*l.length
 | []=>by simp
 | d::l=>by
   have c:=a d
   have b:=X6 a l
   rw[List.flatMap_cons,List.length_append,List.length_cons,Nat.mul_succ];omega
theorem Zi {f:Int->List Spn} {l:List Int} {n:Nat} (h:n<l.length):(l.take (n+1)).flatMap f=(l.take n).flatMap f++f l[n]:=by
 rw[<-List.take_append_getElem h,List.flatMap_append];simp
theorem QJa (h:List Ob) (s:Setup) (a:SA) (k:SIn h s a) (f:SFit s) (K:zz s=true) (x:AV) (l:List Seg) (I:SlOf h x 5 (l.map j7)) (hl:l.length<32768):
  ACalls Tryz.prog 100 [qh s a,x] h λr h'=>r= .tup [spv (vO s l),spv (xP s l)]/\h'=h:=by
 have O:=I.cells
 have P:=I.one
 have κ:=vp l
 refine zf Tryz.f100 [.cell 4 55,.cell 5 55] 29 rfl rfl rfl rfl rfl rfl (by decide) (⟨_,_,⟨rfl,rfl⟩,.refl⟩) λB=>?_
 simp only[go_sem,k.ones,P,O]
 refine zd (k0a _ x l (I.app _) (by omega)) ?_
 rintro _ h1 ⟨rfl,rfl⟩
 simp only[go_sem]
 refine zd (kDa _ _ (zI l) (qx _) (by omega)) ?_
 rintro _ h1 ⟨rfl,rfl⟩
 have N:=kK (zI l)
 have g:vO s l=zw (((zF (zI l)).take (zF (zI l)).length).flatMap (je s l)):=by rw[List.take_length];rfl
 have d:xP s l=zw (((zF (zI l)).take (zF (zI l)).length).flatMap (jX s l)):=by rw[List.take_length];rfl
 obtain ⟨v,hv⟩:∃v,v=zF (zI l):=⟨_,rfl⟩
 rw[<-hv] at N g d⊢
 simp only[go_sem,List.length_map]
 obtain ⟨F,Q⟩:∃F,F=[(h.length,Ob.box 30 (zr s a)),(h.length+1,Ob.box 51 [x])]:=⟨_,rfl⟩
 have hu:(h.length,Ob.box 30 (zr s a))∈F:=by rw[Q];simp
 have hw:(h.length+1,Ob.box 51 [x])∈F:=by rw[Q];simp
 obtain ⟨G,S⟩:∃G,G=AV.fn (.func 165) [] [.ptr h.length 0,.ptr (h.length+1) 0,.ptr (h.length+2) 0,.ptr (h.length+3) 0]:=⟨_,rfl⟩
 rw[<-S]
 refine zk (by decide) (λm T h'=>∃n:Nat,n<=v.length/\L2 F h h' (h.length+2) (h.length+3) 55 134 2 (((v.take n).flatMap (je s l)).map zD) (((v.take n).flatMap (jX s l)).map zD)/\T 4= .ptr (h.length+2) 0/\T 5= .ptr (h.length+3) 0/\T 6= .sl 1 (v.map zH)/\T 7=G/\T 14=i64 v.length/\T 15=i64 n/\m=v.length - n) v.length
  ⟨0,by omega,⟨⟨_,rfl,zg rfl (zg rfl (zg rfl (zj rfl)))⟩,by omega,by omega,by omega,(λz c=>by
   rw[Q] at c
   rcases List.mem_cons.1 c with rfl | c
   ·exact ⟨by show h.length≠h.length+2;omega,by show h.length≠h.length+3;omega,⟨_,_,rfl⟩,by rw[zm rfl];rfl⟩
   ·rw[List.mem_singleton] at c
    subst c
    exact ⟨by show h.length+1≠h.length+2;omega,by show h.length+1≠h.length+3;omega,⟨_,_,rfl⟩,by rw[zl (k:=1) rfl];rfl⟩),
   _,_,by rw[zl (k:=2) rfl];rfl,by rw[zl (k:=3) rfl];rfl,.inl ⟨rfl,rfl⟩,.inl ⟨rfl,rfl⟩,λa s b t J=>by cases J⟩,by simp only[go_sem],by simp only[go_sem],by simp only[go_sem],by simp only[go_sem],by (simp only[go_sem]<;>rfl),by (simp only[go_sem]<;>rfl),rfl⟩ ?_
 rintro m T h' ⟨n,ι,o,t4,t5,t6,Z,A,p,rfl⟩
 have u:=X6 (Ju s l) (v.take n)
 have C:=X6 (Zh s l) (v.take n)
 rw[List.length_take] at u C
 have E:(7*l.length+12)*min n v.length<=(7*32768+12)*371:=Nat.mul_le_mul (by omega) (by omega)
 have D:(6*l.length+10)*min n v.length<=(6*32768+10)*371:=Nat.mul_le_mul (by omega) (by omega)
 simp only[go_sem,A,p]
 refine ways (λe=>?_) (λe=>?_)
 ·have j:=dlt e
  have i:=Qz j
  have V:(n:Int)<v.length:=by omega
  have J:=Zi (f:=je s l) j
  have X:=Zi (f:=jX s l) j
  obtain ⟨z,c⟩:∃z,z=v[n]:=⟨_,rfl⟩
  rw[<-c] at i J X
  simp only[go_sem,t6,Z,p,i,V,S,List.length_map,Int.toNat_natCast,Int.natCast_nonneg]
  refine zd (Zja F h h' (h.length+2) (h.length+3) h.length (h.length+1) s a x l _ _ z o (o.pre.sin k) f K hu hw (o.pre.sl I) hl (by omega) (by omega)) ?_
  rintro _ h6 ⟨rfl,k6⟩
  rw[<-J, <-X] at k6
  simp only[go_sem,p]
  exact ⟨v.length - (n+1),by omega,n+1,by omega,k6,t4,t5,t6,by rw[Z,S],A,zy (by omega) rfl,rfl⟩
 ·have θ:=jd e
  have R:n=v.length:=by omega
  subst R
  obtain ⟨y,z,H,c,oy,oz,α⟩:=o.at_
  have w:=o.pre
  simp only[go_sem]
  refine zp rfl [] 0 [(0,0,[]),(2,0,[]),(1,0,[2]),(3,0,[]),(4,0,[]),(5,0,[])] rfl (by decide) (by decide) ?_
  have ε:∀M,(h'++M)[h.length+2]? =some (.box 55 [y]):=λM=>zb H
  have γ:∀M,(h'++M)[h.length+3]? =some (.box 55 [z]):=λM=>zb c
  simp only[go_sem,t4,t5,H,c]
  refine zd (yO _ y _ oy.rows (by omega)) ?_
  rintro _ h' ⟨rfl,rfl⟩
  rw[<-g]
  simp only[go_sem,c,t5]
  refine zd (yO _ z _ oz.rows (by omega)) ?_
  rintro _ h' ⟨rfl,rfl⟩
  rw[<-d]
  have ne:h.length+2≠h.length+3:=by omega
  have q:h.length+3≠h.length+2:=by omega
  have Y:=(List.getElem?_eq_some_iff.1 H).1
  have W:=(List.getElem?_eq_some_iff.1 c).1
  simp only[go_sem,t4,t5,H,c,List.getElem?_set_ne,ne,q,ne_eq,not_false_eq_true]
  have U:Pre h ((h'.set (h.length+2) (.box 55 [spv (vO s l)])).set (h.length+3) (.box 55 [spv (xP s l)])):=(w.set o.li rfl).set o.lj rfl
  obtain ⟨L,hL,hN⟩:=U
  refine ⟨.tup [spv (vO s l),spv (xP s l)],?_,.inr ⟨h,L,hL,rfl,qAa _ _,.refl,rfl,rfl⟩⟩
  have q1:((h'.set (h.length+2) (.box 55 [spv (vO s l)])).set (h.length+3) (.box 55 [spv (xP s l)]))[h.length+2]? =some (.box 55 [spv (vO s l)]):=by
   rw[List.getElem?_set_ne q,List.getElem?_set_self (by omega)]
  have q2:((h'.set (h.length+2) (.box 55 [spv (vO s l)])).set (h.length+3) (.box 55 [spv (xP s l)]))[h.length+3]? =some (.box 55 [spv (xP s l)]):=by
   rw[List.getElem?_set_self (by rw[List.length_set];omega)]
  simp only[go_sem,t4,t5,q1,q2]
end Go.Proofs.YtfmldcilgbbimaaGreat.Ax
namespace Go.Proofs.YtfmldcilgbbimaaGreat.Ax
open Go
theorem Q1 {C:List Spn} {n size:Int} (r:0<size) {s:Spn} (d:s∈xb C n size):((∃p∈zw C,s.from_=p.from_)∨s.from_=n*size)/\n*size<=s.from_/\s.from_<(n+1)*size:=by
 unfold xb at d
 split at d
 ·cases d
 ·rename_i A
  have h:0<=n:=by omega
  have v:0<=n*size:=Int.mul_nonneg h (by omega)
  have j:=jI s d
  have m:=(Qx (a:=C) (b:=[⟨n*size,(n+1)*size⟩]) (t:=s.from_)).1 ⟨s,d,by omega,j.2.1⟩
  obtain ⟨_,_,y,c,g,i⟩:=m
  rw[List.mem_singleton] at c
  subst c
  refine ⟨?_,g,i⟩
  obtain ⟨y,c,e⟩:=ZJ d
  unfold qG at c
  obtain ⟨z,f,rfl⟩:=List.mem_map.1 (List.mem_filter.1 c).1
  obtain ⟨p,l,f⟩:=List.mem_flatMap.1 f
  obtain ⟨q,k,rfl⟩:=List.mem_map.1 f
  have x:=(jI p l).1
  have w:=(jI q k).1
  obtain ⟨y,c,o⟩:=ZJ k
  unfold qG at c
  obtain ⟨z,f,rfl⟩:=List.mem_map.1 (List.mem_filter.1 c).1
  rw[List.mem_singleton] at f
  subst f
  simp only[jj] at o
  simp only[jj,vH] at e
  by_cases u:p.from_<=q.from_
  ·right;omega
  ·left;exact ⟨p,l,by omega⟩
theorem j0a (C:List Spn) (size:Int) (a:0<size) (L:List Int) (f:L.Nodup):(L.flatMap λd=>xb C d size).length<=(zw C).length+L.length:=by
 have key:∀L:List Int,L.Nodup->((L.flatMap λd=>xb C d size).map (·.from_)).Nodup:=λL=>by
  induction L with
  | nil=>intro _;simp
  | cons d L r=>
    intro f
    rw[List.nodup_cons] at f
    rw[List.flatMap_cons,List.map_append,List.nodup_append]
    refine ⟨?_,r f.2,?_⟩
    ·unfold xb
     split
     ·simp
     ·exact (j9 _).froms
    ·intro x g y n e
     obtain ⟨s,c,rfl⟩:=List.mem_map.1 g
     obtain ⟨t,k,rfl⟩:=List.mem_map.1 n
     obtain ⟨j,l,k⟩:=List.mem_flatMap.1 k
     have v:=(Q1 a c).2
     have z:=(Q1 a k).2
     have i:d≠j:=λq=>f.1 (by rw[q];exact l)
     rw[e] at v
     rcases Int.lt_or_gt_of_ne i with u | m
     ·have:(d+1)*size<=j*size:=Int.mul_le_mul_of_nonneg_right (by omega) (by omega)
      omega
     ·have:(j+1)*size<=d*size:=Int.mul_le_mul_of_nonneg_right (by omega) (by omega)
      omega
 have h:=Zf (key L f) (b:=(zw C).map (·.from_)++L.map (· *size)) λx g=>by
  obtain ⟨s,c,rfl⟩:=List.mem_map.1 g
  obtain ⟨d,w,c⟩:=List.mem_flatMap.1 c
  rw[List.mem_append]
  rcases (Q1 a c).1 with ⟨p,o,e⟩ | e
  ·exact .inl (List.mem_map.2 ⟨p,o,e.symm⟩)
  ·exact .inr (List.mem_map.2 ⟨d,w,e.symm⟩)
 simpa using h
theorem yT (C:List Spn) (L:List Int) (a:L.Nodup):(L.flatMap (qO C)).length<=(zw C).length+L.length:=j0a C 86400 (by decide) L a
theorem qBa {f g:Int->List Spn} {a b:Nat} (h:∀d,(f d).length<=a*(g d).length+b):∀L:List Int,(L.flatMap f).length<=a*(L.flatMap g).length+b*L.length
 | []=>by simp
 | d::L=>by
   have e:=h d
   have c:=qBa h L
   rw[List.flatMap_cons,List.flatMap_cons,List.length_append,List.length_append,List.length_cons,Nat.mul_add,Nat.mul_succ];omega
theorem X7 {f g k:Int->List Spn} {a b c:Nat} (h:∀d,(f d).length<=a*(g d).length+b*(k d).length+c):∀L:List Int,(L.flatMap f).length<=a*(L.flatMap g).length+b*(L.flatMap k).length+c*L.length
 | []=>by simp
 | d::L=>by
   have i:=h d
   have e:=X7 h L
   rw[List.flatMap_cons,List.flatMap_cons,List.flatMap_cons,List.length_append,List.length_append,List.length_append,List.length_cons,Nat.mul_add,Nat.mul_add,Nat.mul_succ];omega
theorem kx {L:List Int} (h:L.Pairwise (· < ·)):L.Nodup:=h.imp λ{a b} q e=>by omega
end Go.Proofs.YtfmldcilgbbimaaGreat.Ax
namespace Go.Proofs.YtfmldcilgbbimaaGreat.Ax
open Go Go.Proofs
set_option maxRecDepth 100000
theorem zJa (s:Setup) (l:List Seg) (d:Int):(je s l d).length<=3*(qO (zI l) d).length+4*(qO (xG l 3) d).length+5:=by
 have b:=qK (qO (zI l) d) (jX s l d)
 have a:=ZR s (qO (zI l) d) (qO (xG l 3) d)
 have e:=zq (qO (zI l) d)
 have c:=zq (jX s l d)
 unfold je
 unfold jX at*
 omega
theorem Yk (s:Setup) (l:List Seg):(vO s l).length<=7*l.length+4452:=by
 have h0:=zq ((zF (zI l)).flatMap (je s l))
 have e:=X7 (zJa s l) (zF (zI l))
 have a:=yT (zI l) _ (kx (jO (zI l)).1)
 have g:=yT (xG l 3) _ (kx (jO (zI l)).1)
 have b:=kK (zI l)
 have c:=zq (zI l)
 have h:=zq (xG l 3)
 have d:=vp l
 have f:=QA l 3
 unfold vO
 omega
theorem Yl (s:Setup) (l:List Seg):(xP s l).length<=6*l.length+4452:=by
 have h0:=zq ((zF (zI l)).flatMap (jX s l))
 have g:=X7 (λd=>ZR s (qO (zI l) d) (qO (xG l 3) d)) (zF (zI l))
 have a:=yT (zI l) _ (kx (jO (zI l)).1)
 have i:=yT (xG l 3) _ (kx (jO (zI l)).1)
 have b:=kK (zI l)
 have c:=zq (zI l)
 have j:=zq (xG l 3)
 have f:=vp l
 have h:=QA l 3
 unfold xP
 have e:(zF (zI l)).flatMap (jX s l)=(zF (zI l)).flatMap λd=>xO s (qO (zI l) d) (qO (xG l 3) d):=rfl
 rw[e] at h0⊢
 omega
def Q2 (v:List Spn) (d:Int):AV:=spv (qO v d)
theorem wAa (j:Nat) (v:List Spn) (x:v.length<1048576):y7a Tryz.prog 222 [.ptr j 0] (λh=>h[j]? =some (.box 55 [spv v])) ((zF v).map (Q2 v)):=by
 intro l K D c y f a w C
 have hex:∃(r:AV) (h':List Ob),K ((zF v).map (Q2 v)).length h'/\ResK D h':=by
  obtain ⟨h',q⟩:=a
  exact ⟨.tup [],h',q⟩
 have G:=f 0 D c
 have s:=kK v
 refine zf Tryz.f222 [] 19 rfl rfl rfl rfl rfl rfl (by decide) (hex) λB=>?_
 simp only[go_sem,G,List.length_map]
 refine zd (kDa _ _ v (qx _) x) ?_
 rintro _ J ⟨rfl,rfl⟩
 rw[List.length_map] at a
 obtain ⟨W,H⟩:∃W,W=zF v:=⟨_,rfl⟩
 rw[<-H] at s a C⊢
 simp only[go_sem,List.length_map]
 refine zk (by decide) (λm T h'=>∃(i:Nat),i<=W.length/\K i h'/\T 0= .v (.func (.yield l) #[] #[])/\T 1= .ptr j 0/\T 6= .sl 1 (W.map zH)/\T 7=i64 W.length/\T 8=i64 i/\m=W.length - i) W.length
  ⟨0,by omega,c,by simp only[go_sem],by simp only[go_sem],by simp only[go_sem],by (simp only[go_sem]<;>rfl),by (simp only[go_sem]<;>rfl),rfl⟩ ?_
 rintro m T h' ⟨i,L,p,t0,t1,t6,A,t8,rfl⟩
 simp only[go_sem,A,t8]
 refine ways (λe=>?_) (λe=>?_)
 ·have d:=dlt e
  have b:=Qz d
  have u:(i:Int)<W.length:=by omega
  have k:=f i h' p
  have t:(W.map (Q2 v))[i]? =some (Q2 v W[i]):=by rw[List.getElem?_map,List.getElem?_eq_getElem d];rfl
  have g:=C i _ h' t p
  obtain ⟨z,F⟩:∃z,z=W[i]:=⟨_,rfl⟩
  rw[<-F] at b g
  simp only[go_sem,t0,t1,t6,t8,b,k,u,List.length_map,Int.toNat_natCast,Int.natCast_nonneg]
  refine zd (zCa _ _ v z (qx _) x) ?_
  rintro _ M ⟨rfl,rfl⟩
  simp only[go_sem]
  refine yC g ?_
  rintro N ⟨n,E⟩
  simp only[go_sem,t8]
  exact ⟨W.length - (i+1),by omega,i+1,by omega,n,t0,t1,t6,A,zy (by omega) rfl,rfl⟩
 ·have I:=jd e
  have o:i=W.length:=by omega
  subst o
  simp only[go_sem]
  exact ⟨_,rfl,.inl p⟩
theorem j1a (h:List Ob) (v:List Spn):ACalls Tryz.prog 167 [spv v] h λr h'=>r= .fn (.func 222) [] [.ptr h.length 0]/\h'=h++[.box 55 [spv v]]:=by
 refine zf Tryz.f167 [.tmp 2] 4 rfl rfl rfl rfl rfl rfl (by decide) (⟨_,_,⟨rfl,rfl⟩,zT⟩) λB=>?_
 simp only[go_sem]
 exact ⟨_,rfl,.inl ⟨rfl,rfl⟩⟩
theorem k1a (h:List Ob) (j:Nat) (v:List Spn) (n:Int) (c:h[j]? =some (.box 55 [spv v])) (a:v.length<1048576) (b:Fit n):
  ACalls Tryz.prog 168 [i64 n,.ptr j 0] h λr h'=>r=spv (zE v n)/\h'=h:=by
 refine zf Tryz.f168 [.tmp 3] 7 rfl rfl rfl rfl rfl rfl (by decide) (⟨_,_,⟨rfl,rfl⟩,.refl⟩) λB=>?_
 simp only[go_sem,c]
 refine zd (VT _ _ v n (qx _) a b) ?_
 rintro _ d ⟨rfl,rfl⟩
 simp only[go_sem]
 exact ⟨_,by simp only[go_sem],.inl ⟨rfl,rfl⟩⟩
def Sv (y:AV) (R:List Spn):Prop:=y=spv R∨y= .v (.slice none 0 0)/\R=[]
theorem Sv.sl {h:List Ob} {y:AV} {R:List Spn} (k:Sv y R):SlOf h y 2 (R.map zD):=by
 rcases k with rfl | ⟨rfl,rfl⟩
 ·exact qx _
 ·exact ⟨rfl,λh=>absurd rfl h⟩
def vT (s:Setup) (W:List Spn) (l:List Int):List Spn:=l.flatMap λd=>zE (qO W d) s.dayReg
def wt (s:Setup) (W:List Spn) (l:List Int):List Spn:=l.flatMap λd=>zE (qO W d) s.dayOver
def yU (s:Setup) (p:List Spn) (w:Int):List Spn × List Spn × List Spn:=
 let W:=zZ p w
 let t:=zE (vT s W (zF W)) s.weekReg
 (t,qf (wt s W (zF W)) t,qf W (wt s W (zF W)))
theorem ky (W:List Spn) (n:Int) (L:List Int) (h:L.Nodup):(L.flatMap λd=>zE (qO W d) n).length<=W.length+L.length:=by
 have e:=qBa (f:=λd=>zE (qO W d) n) (g:=qO W) (a:=1) (b:=0) (λd=>by
  have e:(zE (qO W d) n).length<=(zw (qO W d)).length:=qW _ _
  have c:=zq (qO W d)
  omega) L
 have c:=yT W L h
 have i:=zq W
 omega
theorem k2a {s:Setup} {W:List Spn} {l:List Int} {n:Nat} (h:n<l.length):vT s W (l.take (n+1))=vT s W (l.take n)++zE (qO W l[n]) s.dayReg:=Zi h
theorem k3a {s:Setup} {W:List Spn} {l:List Int} {n:Nat} (h:n<l.length):wt s W (l.take (n+1))=wt s W (l.take n)++zE (qO W l[n]) s.dayOver:=Zi h
structure KOv (h:List Ob) (s:Setup) (a:SA) (W:List Spn) (l:List Int) (h':List Ob):Prop where
 pre:Pre h h'
 set_:h'[h.length]? =some (.box 30 (zr s a))
 reg:∃y,h'[h.length+1]? =some (.box 55 [y])/\Sv y (vT s W l)
 ovr:∃y,h'[h.length+2]? =some (.box 55 [y])/\Sv y (wt s W l)
 wk:h'[h.length+3]? =some (.box 55 [spv W])
theorem KOv.app {h:List Ob} {s:Setup} {a:SA} {W:List Spn} {l:List Int} {h':List Ob} (k:KOv h s a W l h') {M:List Ob} (b:NoRes M):KOv h s a W l (h'++M):=
 ⟨k.pre.app b,zb k.set_,let ⟨y,q1,q2⟩:=k.reg;⟨y,zb q1,q2⟩,let ⟨y,q1,q2⟩:=k.ovr;⟨y,zb q1,q2⟩,zb k.wk⟩
theorem KOv.raw {h:List Ob} {s:Setup} {a:SA} {W:List Spn} {b:List Int} {h':List Ob} (k:KOv h s a W b h') {j l o ks us o'} (g:h.length<=j) (f:h'[j]? =some (.raw l o ks us)):KOv h s a W b (h'.set j (.raw l o' ks us)):=by
 have c:∀(z:Nat) t d,h'[z]? =some (.box t d)->(h'.set j (.raw l o' ks us))[z]? =some (.box t d):=λz t d q=>by
  have:j≠z:=λe=>by rw[e,q] at f;cases f
  rw[List.getElem?_set_ne this];exact q
 exact ⟨k.pre.set g rfl,c _ _ _ k.set_,let ⟨y,q1,q2⟩:=k.reg;⟨y,c _ _ _ q1,q2⟩,let ⟨y,q1,q2⟩:=k.ovr;⟨y,c _ _ _ q1,q2⟩,c _ _ _ k.wk⟩
theorem KOv.put {h:List Ob} {s:Setup} {a:SA} {W:List Spn} {l l':List Int} {h':List Ob} (k:KOv h s a W l h') {M:List Ob} (d:NoRes M) {y z:AV} (c:Sv y (vT s W l')) (f:Sv z (wt s W l')):
  KOv h s a W l' (((h'++M).set (h.length+1) (.box 55 [y])).set (h.length+2) (.box 55 [z])):=by
 obtain ⟨g,e,_⟩:=k.reg
 obtain ⟨z0,b,_⟩:=k.ovr
 have i:=(List.getElem?_eq_some_iff.1 e).1
 have l2:=(List.getElem?_eq_some_iff.1 b).1
 refine ⟨((k.pre.app d).set (by omega) rfl).set (by omega) rfl,?_,⟨y,?_,c⟩,⟨z,?_,f⟩,?_⟩
 ·rw[List.getElem?_set_ne (by omega),List.getElem?_set_ne (by omega)];exact zb k.set_
 ·rw[List.getElem?_set_ne (by omega),List.getElem?_set_self (by rw[List.length_append];omega)]
 ·rw[List.getElem?_set_self (by rw[List.length_set,List.length_append];omega)]
 ·rw[List.getElem?_set_ne (by omega),List.getElem?_set_ne (by omega)];exact zb k.wk
theorem KOv.raws {h:List Ob} {s:Setup} {a:SA} {W:List Spn} {l:List Int} {h':List Ob} (k:KOv h s a W l h') {M:List Ob} {o o':Ob}:RawK h' (((h'++M).set (h.length+1) o).set (h.length+2) o'):=by
 obtain ⟨d,c,_⟩:=k.reg
 obtain ⟨z0,b,_⟩:=k.ovr
 exact (RawK.app.trans (.setB (zb c))).trans (.setB ((List.getElem?_set_ne (by omega)).trans (zb b)))
theorem QKa (h:List Ob) (s:Setup) (a:SA) (k:SIn h s a) (f:SFit s) (K:zz s=true) (x:AV) (p:List Spn) (w:Int) (A:SlOf h x 2 (p.map zD)) (hl:p.length<262144):
  ACalls Tryz.prog 101 [qh s a,x,i64 w] h λr h'=>r= .tup [spv (yU s p w).1,spv (yU s p w).2.1,spv (yU s p w).2.2]/\h'=h:=by
 have ht:=Q0 K
 refine Jq Tryz.f101 [.tmp 6,.tmp 7,.tmp 8] 49 rfl rfl rfl rfl rfl rfl (⟨_,rfl⟩) λbs=>?_
 refine jk (by decide) ?_
 simp only[go_sem,k.ones]
 refine jk (by decide) ?_
 simp only[go_sem,k.ones]
 refine zd (c16 _ s a (k.app _) f) ?_
 rintro _ h1 ⟨rfl,rfl⟩
 simp only[go_sem,K,zM,Bool.not_true]
 refine jk (by decide) ?_
 simp only[go_sem]
 refine jk (by decide) ?_
 simp only[go_sem]
 refine zd (qsa _ x p w (A.app _) (by omega)) ?_
 rintro _ h1 ⟨rfl,rfl⟩
 simp only[go_sem]
 have U:(zZ p w).length<=(zw p).length+1:=wE _ _ _
 have hnl:=zq p
 obtain ⟨W,hW⟩:∃W,W=zZ p w:=⟨_,rfl⟩
 have γ:yU s p w=(zE (vT s W (zF W)) s.weekReg,qf (wt s W (zF W)) (zE (vT s W (zF W)) s.weekReg),qf W (wt s W (zF W))):=by rw[hW];rfl
 rw[γ]
 rw[<-hW] at U⊢
 refine XS ?_
 refine jk (by decide) ?_
 simp only[go_sem]
 refine zd (j1a _ W) ?_
 rintro _ h1 ⟨rfl,rfl⟩
 simp only[go_sem]
 have ω:=kK W
 have base:KOv h s a W ((zF W).take 0) (h++[.box 30 (zr s a),.box 55 [.v (.slice none 0 0)],.box 55 [.v (.slice none 0 0)],.box 55 [spv W]]):=
  ⟨⟨_,rfl,zg rfl (zg rfl (zg rfl (zj rfl)))⟩,by rw[zm rfl];rfl,⟨_,by rw[zl (k:=1) rfl];rfl,.inr ⟨rfl,rfl⟩⟩,⟨_,by rw[zl (k:=2) rfl];rfl,.inr ⟨rfl,rfl⟩⟩,by rw[zl (k:=3) rfl];rfl⟩
 refine qva (Jp (K5 (XT (p:=22) (by decide) rfl (by simp only[go_sem]) (wAa (h.length+3) W (by omega))
  (λn h'=>KOv h s a W ((zF W).take n) h')
  (λn x F u=>F 3= .ptr h.length 0/\F 9= .ptr (h.length+1) 0/\F 10= .ptr (h.length+2) 0/\∃d j,(zF W)[n]? =some d/\F 12= .ptr j 0/\u[j]? =some (.box 55 [spv (qO W d)])/\j≠h.length+1/\j≠h.length+2/\KOv h s a W ((zF W).take n) u)
  ?_ (λn h' M C k=>k.app C) (λn h' k=>k.wk) ?_ ?_ ?_ ?_ ?_) ?_))
 ·exact λM C=>base.app C
 ·intro M C
  have q:=(base.app C).put (M:=[]) (l':=(zF W).take ((zF W).map (Q2 W)).length) jF (.inl rfl) (.inl rfl)
  refine ⟨_,q,(base.app C).pre.resK q.pre,(base.app C).raws⟩
 ·intro n h' j l o ks us o' V k R
  exact k.raw (Nat.le_trans (by rw[List.length_append];exact Nat.le_add_right _ _) V) R
 ·rintro n x F u j l o ks us o' V ⟨t3,t9,t10,d,m,q1,q2,P,q4,q5,k⟩ R
  refine ⟨t3,t9,t10,d,m,q1,q2,?_,q4,q5,k.raw (Nat.le_trans (by rw[List.length_append];exact Nat.le_add_right _ _) V) R⟩
  have:j≠m:=λe=>by rw[e,P] at R;cases R
  rw[List.getElem?_set_ne this];exact P
 ·intro bb l n x h' A k
  rw[List.getElem?_map] at A
  cases hs:(zF W)[n]? with
  | none=>rw[hs] at A;cases A
  | some d=>
    rw[hs] at A
    injection A with A
    subst A
    refine yc (by decide) (by decide) ?_
    have hkl:=(List.getElem?_eq_some_iff.1 k.wk).1
    simp only[go_sem,kGa,Q2]
    exact ⟨⟨d,h'.length,rfl,rfl,by rw[zm rfl];rfl,by omega,by omega,k.app (zj rfl)⟩,.app,.app⟩
 ·rintro bb l n x F u A ⟨t3,t9,t10,d,m,q1,q2,P,q4,q5,k⟩
  obtain ⟨y,S,L⟩:=k.reg
  obtain ⟨z,I,G⟩:=k.ovr
  refine K4 (wka (yc (by decide) (by decide) ?_))
  simp only[go_sem,q2]
  refine kEa rfl [.res,.res] 2 [(1,0,[]),(2,0,[]),(8,0,[]),(9,0,[]),(0,0,[]),(3,0,[]),(7,0,[]),(10,0,[]),(4,0,[0,7,10]),(5,0,[]),(6,0,[7,10]),(11,0,[7]),(12,1,[]),(13,0,[]),(14,0,[]),(15,0,[])] rfl (by decide) (by decide) (by decide) (λ_ _ q=>by cases q.1) ?_
  have c:∀M,(u++M)[h.length+1]? =some (.box 55 [y]):=λM=>zb S
  have g:∀M,(u++M)[h.length+2]? =some (.box 55 [z]):=λM=>zb I
  have b:∀M,(u++M)[h.length]? =some (.box 30 (zr s a)):=λM=>zb k.set_
  have X:=(L.sl (h:=h)).cells
  have Z:=(L.sl (h:=h)).one
  have T:=(G.sl (h:=h)).cells
  have Y:=(G.sl (h:=h)).one
  have i:=kx ((jO W).1.sublist (List.take_sublist n _))
  have B:=ky W s.dayReg _ i
  have E:=ky W s.dayOver _ i
  rw[List.length_take] at B E
  have ο:=wH W d
  have hf1:(zE (qO W d) s.dayReg).length<=(zw (qO W d)).length:=qW _ _
  have ψ:(zE (qO W d) s.dayOver).length<=(zw (qO W d)).length:=qW _ _
  have ρ:=zq (qO W d)
  have τ:=ht.dayReg
  have φ:=ht.dayOver
  obtain ⟨Q,α⟩:=List.getElem?_eq_some_iff.1 q1
  have e1:=k2a (s:=s) (W:=W) Q
  have e2:=k3a (s:=s) (W:=W) Q
  rw[α] at e1 e2
  simp only[go_sem,t3,t9,t10,c,g,b]
  refine zd (k1a _ m (qO W d) s.dayReg (zb P) (by omega) (by unfold Fit;omega)) ?_
  rintro _ H ⟨rfl,rfl⟩
  simp only[go_sem,Z,X,t3,t9,t10,c,g,b]
  refine zd (X4 _ u.length y _ (vT s W ((zF W).take n)) (zE (qO W d) s.dayReg) (by rw[zm rfl];rfl) L.sl (qx _) (by unfold vT;omega) (by omega)) ?_
  rintro _ H ⟨rfl,rfl⟩
  rw[<-e1]
  simp only[go_sem,t3,t9,t10,c,g,b]
  refine zd (k1a _ m (qO W d) s.dayOver (zb P) (by omega) (by unfold Fit;omega)) ?_
  rintro _ H ⟨rfl,rfl⟩
  simp only[go_sem,Y,T,t3,t9,t10,c,g,b]
  refine zd (X4 _ (u.length+1) z _ (wt s W ((zF W).take n)) (zE (qO W d) s.dayOver) (by rw[zl (k:=1) rfl];rfl) G.sl (qx _) (by unfold wt;omega) (by omega)) ?_
  rintro _ H ⟨rfl,rfl⟩
  rw[<-e2]
  have ne:h.length+1≠h.length+2:=by omega
  simp only[go_sem,t3,t9,t10,c,g,b,List.getElem?_set_ne,ne,ne_eq,not_false_eq_true]
  exact ⟨k.put (zg rfl (zj rfl)) (.inl rfl) (.inl rfl),k.raws,(KeepB.app.trans (.setL (by omega))).trans (.setL (by omega))⟩
 ·rintro e ds F u ⟨rfl,rfl,D,id,rfl,hid,J,k⟩
  rw[List.length_append] at hid
  rw[List.length_map,List.take_length] at k
  obtain ⟨y,S,L⟩:=k.reg
  obtain ⟨z,I,G⟩:=k.ovr
  have O:=k.pre
  have b:=k.set_
  have i:=kx (jO W).1
  have B:=ky W s.dayReg _ i
  have E:=ky W s.dayOver _ i
  have χ:=ht.weekReg
  have υ:(vT s W (zF W)).length<=W.length+(zF W).length:=B
  have hl2:(wt s W (zF W)).length<=W.length+(zF W).length:=E
  refine ⟨rfl,(jk (by decide) ?_:Zl _ _ _ _ _ _ _ _)⟩
  simp only[go_sem,S,I,b]
  refine zd (VT _ y (vT s W (zF W)) s.weekReg L.sl (by omega) (by unfold Fit;omega)) ?_
  rintro _ H ⟨rfl,rfl⟩
  simp only[go_sem]
  obtain ⟨t,N⟩:∃t,t=zE (vT s W (zF W)) s.weekReg:=⟨_,rfl⟩
  have htl:t.length<=(zw (vT s W (zF W))).length:=by rw[N];exact qW _ _
  have ξ:=zq (vT s W (zF W))
  rw[<-N]
  refine qva (K6 (by decide) ?_)
  simp only[go_sem]
  refine zp rfl [] 0 [(0,0,[]),(2,0,[]),(4,0,[]),(1,0,[]),(5,0,[]),(3,0,[5]),(6,0,[]),(7,0,[]),(8,0,[]),(9,0,[])] rfl (by decide) (by decide) ?_
  simp only[go_sem,S,I]
  refine zd (ZP _ z _ (wt s W (zF W)) t G.sl (qx _) (by omega) (by omega)) ?_
  rintro _ H ⟨rfl,rfl⟩
  simp only[go_sem,I]
  refine zd (ZP _ _ z W (wt s W (zF W)) (qx _) G.sl (by omega) (by omega)) ?_
  rintro _ H ⟨rfl,rfl⟩
  simp only[go_sem,S,I]
  exact kLa (.inr ⟨D,id,rfl,by omega,J⟩) O (r:= .tup [spv t,spv (qf (wt s W (zF W)) t),spv (qf W (wt s W (zF W)))]) (λ_=>rfl) (wza _ _ _) rfl
end Go.Proofs.YtfmldcilgbbimaaGreat.Ax
namespace Go.Proofs.YtfmldcilgbbimaaGreat.Ax
open Go Go.Proofs Go.Shelf Go.RowKit Go.Lib Go.Sort
def wm {α:Type} (enc:α->List Value) (l:List α):List Value:=(l.map enc).flatten
theorem Q3 {α:Type} (enc:α->List Value) (K:Nat) (a:∀x,(enc x).length=K):∀l:List α,(wm enc l).length=l.length*K
 | []=>by simp[wm]
 | x::l=>by
   have:=Q3 enc K a l
   simp only[wm,List.map_cons,List.flatten_cons,List.length_append,List.length_cons,a] at this⊢
   rw[this,Nat.succ_mul];omega
theorem zKa {α:Type} (enc:α->List Value):∀l:List α,(l.map λx=>(enc x).map AV.v).flatten=(wm enc l).map .v
 | []=>rfl
 | x::l=>by
   have:=zKa enc l
   simp only[wm,List.map_cons,List.flatten_cons,List.map_append] at this⊢
   rw[this]
section
variable {α:Type} [Inhabited α] (enc:α->List Value) (K:Nat)
theorem X8 (f:0<K) (a:∀x,(enc x).length=K):∀(l:List α) (t:Nat),t<l.length*K->(wm enc l)[t]? =some ((enc l.toArray[t / K]!)[t % K]!)
 | [],t,h=>by simp at h
 | x::l,t,h=>by
   by_cases b:t<K
   ·have c:(wm enc (x::l))[t]? =(enc x)[t]? :=by
     simp only[wm,List.map_cons,List.flatten_cons]
     rw[List.getElem?_append_left (by rw[a];exact b)]
    have e:t<(enc x).length:=by rw[a];exact b
    rw[c,Nat.div_eq_of_lt b,Nat.mod_eq_of_lt b,List.getElem?_eq_getElem e]
    simp[getElem!_pos (enc x) t e]
   ·have c:(wm enc (x::l))[t]? =(wm enc l)[t - K]? :=by
     simp only[wm,List.map_cons,List.flatten_cons]
     rw[List.getElem?_append_right (by rw[a];omega),a]
    have d:t - K<l.length*K:=by rw[List.length_cons,Nat.succ_mul] at h;omega
    rw[c,X8 f a l _ d]
    have g:t / K=(t - K) / K+1:=by rw[Nat.div_eq_sub_div f (by omega)]
    have i:t % K=(t - K) % K:=Nat.mod_eq_sub_mod (by omega)
    rw[g,i]
    simp
theorem Ym (c:0<K) (a:∀x,(enc x).length=K) (l:List α):(flatK enc K l.toArray).toList=wm enc l:=by
 apply List.ext_getElem?
 intro t
 by_cases b:t<l.length*K
 ·rw[X8 enc K c a l t b]
  simp[flatK,b]
 ·rw[List.getElem?_eq_none (by simp;omega),List.getElem?_eq_none (by rw[Q3 enc K a];omega)]
theorem Zka {P:Program} {f Q:FuncId} {ty:TypeId} (hK:0<K) (m:∀x,(enc x).length=K) (lt:α->α->Bool) (I:J7 P f=true)
  (hex:∀l:List α,∃l':List α,l'.Perm l/\l'.Pairwise λa b=>lt b a=false)
  (hc:∀(blk off cap:Nat) (d:Array α) (w:World),HoldsK enc K w blk off d->blk<w.heap.size->d.size<4611686018427387904->Calls P f #[.slice (some ⟨blk,off,none⟩) d.size cap,.func (.func Q) #[] #[]] w λe w'=>e= .returned (.tuple #[])/\∃c n os,PermIn 0 d.size d c/\SortedIn lt 0 d.size c/\w'=sortWorldK enc K w blk off n c os)
  (S:∀(A:Option Addr) (cap:Nat) (w:World),Calls P f #[.slice A 0 cap,.func (.func Q) #[] #[]] w λe w'=>e= .returned (.tuple #[])/\w'=w)
  (h:List Ob) (id st:Nat) (l:List α) (N:h[id]? =some (.row ty K (l.map λx=>(enc x).map .v) st)) (hl:l.length<1099511627776):
  ACalls P f [.tl id st,.fn (.func Q) [] []] h λr h'=>r= .tup []/\∃l':List α,l'.Perm l/\(l'.Pairwise λa b=>lt b a=false)/\h'=h.set id (.row ty K (l'.map λx=>(enc x).map .v) st):=by
 refine ⟨I,?_,?_⟩
 ·obtain ⟨l',q1,M⟩:=hex l
  exact ⟨_,_,⟨rfl,l',q1,M,rfl⟩,zJ N rfl⟩
 ·intro φ hu B w g vs Z hB D
  have y:(fill φ h)[id]? =some (.row ty K (l.map λx=>(enc x).map .v) st):=zK N rfl
  obtain ⟨v1,r1,rfl,⟨_,W,H⟩,v2,r2,rfl,⟨us,vs,rfl,q,s⟩,Y⟩:=D
  have Y:r2=[]:=Y
  subst Y
  have q:us.toList=[]:=q
  have s:vs.toList=[]:=s
  have q:us= #[]:=by simpa using q
  have s:vs= #[]:=by simpa using s
  subst q;subst s
  have e0:v1=g.cur id:=(H st (by simp[ctx,y,Ob.tok])).2 rfl
  obtain ⟨q0,q1,cells,M,q3⟩:=Z.ok id _ y
  rw[zKa] at q3
  have e1:=XI q3
  subst e1
  by_cases J:l=[]
  ·subst J
   have R:∃A k,g.cur id= .slice A 0 k:=by
    rcases M.2 with ⟨o,_⟩ | ⟨z,cap,cur,o,_⟩
    ·exact ⟨_,_,o⟩
    ·exact ⟨_,_,o⟩
   obtain ⟨A,k,R⟩:=R
   rw[e0,R]
   refine (S A k w).mono ?_
   rintro e w' ⟨rfl,rfl⟩
   exact ⟨_,_,_,_,rfl,⟨rfl,[],.refl _,.nil,(zW N).symm⟩,.refl,Good.refl Z hB, #[],rfl,rfl⟩
  rcases M.2 with ⟨_,o⟩ | ⟨z,cap,cur,o,e4,L,X,e7,e8,e9⟩
  ·exfalso
   simp at o
   exact J o
  ·have o:g.cur id=_:=o
   simp only[List.length_map] at o X e9
   have V:l.length*K<=cur.size:=by rw[e8];exact Nat.mul_le_mul_right _ X
   have U:∀j,j<l.length*K->cur[j]? =some ((enc l.toArray[j / K]!)[j % K]!):=λj u=>by
    rw[<-X8 enc K hK m l j u, <-e9,List.getElem?_take,if_pos u,Array.getElem?_toList]
   have hH:HoldsK enc K w z 0 l.toArray:=λj u=>by
    have u:j<l.length*K:=by simpa using u
    refine ⟨?_,?_⟩
    ·simp only[World.cell?,L,Nat.zero_add]
     rw[get_flatK _ _ _ _ (by simpa using u)]
     exact U j u
    ·simp[World.frozen?,L]
   have p:=hc z 0 cap l.toArray w hH (Array.getElem?_eq_some_iff.1 L).1 (by simp;omega)
   rw[e0,o]
   have T:l.toArray.size=l.length:=by simp
   rw[T] at p
   refine p.mono ?_
   rintro e w' ⟨rfl,c,n,os,hp,hs,rfl⟩
   obtain ⟨p1,p2,p3⟩:=hp
   have G:c.size=l.length:=by rw[p1];simp
   have C:c.toList.Perm l:=by
    have a1:c.extract 0 l.length=c:=by rw[<-G];simp
    have a2:l.toArray.extract 0 l.length=l.toArray:=by simp
    rw[a1,a2] at p3
    exact p3
   have E:c.toList.Pairwise λa b=>lt b a=false:=by
    rw[List.pairwise_iff_getElem]
    intro i j hi u O
    simp only[Array.length_toList] at hi u
    have:=hs i j (by omega) O (by omega)
    rw[getElem!_pos c i hi,getElem!_pos c j u] at this
    simpa using this
   have hF:(flatK enc K c).toList=wm enc c.toList:=Ym enc K hK m c.toList
   have F:(flatK enc K c).size=l.length*K:=by simp[G]
   have t:=Z5 (w':=sortWorldK enc K w z 0 n c os) (v':=g.cur id) (st':=st) (xs':=c.toList.map λx=>(enc x).map .v) (cells:=wm enc c.toList) Z hB y (by simp[m]) (by rw[o];exact K2 w z n _ os)
    ⟨by rw[Q3 enc K m];simp,.inr ⟨z,cap,_,by simp[o,G],e4,WY w z n _ os L,by simp[G];exact X,e7,by simp[putCells];exact e8,by
     have:=WZ (flatK enc K c) cur (by rw[F];exact V)
     rw[hF,F] at this
     simpa [G] using this⟩⟩ (by rw[zKa];exact Z3 _) (.inl ⟨rfl,rfl⟩) (λb hb=> .inl hb)
   rw[<-qS rfl] at t
   exact ⟨_,_,_,_,rfl,⟨rfl,c.toList,C,E,rfl⟩,zJ N rfl,t, #[],rfl,rfl⟩
end
end Go.Proofs.YtfmldcilgbbimaaGreat.Ax
