/-
  Joined.
-/
import Derived.Test.YtigdlmpjijhpaaaGreatK34
import Derived.Test.YtigdlmpjijhpaaaGreatK23
import Derived.Test.YtigdlmpjijhpaaaGreatK33
import Derived.Test.YtigdlmpjijhpaaaGreatK22
set_option linter.unusedSimpArgs false
set_option linter.unusedVariables false
namespace Go.Proofs.YtigdlmpjijhpaaaGreat.Ax
open Go Go.Proofs
set_option maxRecDepth 100000
theorem X9 (h:List Ob) (id:Nat) (x y:AV) (a b:List Spn) (e:h[id]? =some (.row 55 1 [[x],[y]] 0)) (f:SlOf h x 2 (a.map zz)) (g:SlOf h y 2 (b.map zz)) (j:a.length<268435456) (i:b.length<268435456):
  ACalls Tryz.prog 188 [.tl id 0] h λr h'=>r=spv (a++b)/\h'=h:=by
 have d:vr [(x,a),(y,b)]=a++b:=by simp[vr]
 have q:=xE (by decide) (yj _) (k6a h (.tl id 0) [(x,a),(y,b)] ⟨by rw[zP,e];rfl,λ_=>by rw[qR,e];rfl⟩
  (λq c=>by rcases List.mem_cons.1 c with rfl | c;exact f;rw[List.mem_singleton] at c;subst c;exact g) (by show 2<1048576;decide) (by rw[d,List.length_append];omega))
 rw[d] at q
 exact q
theorem vja (h:List Ob) (x:AV) (l:List Seg) (a:SlOf h x 5 (l.map xf)) (b:l.length<1048576):
  ACalls Tryz.prog 23 [x] h λr h'=>r=spv (zG l)/\h'=h:=xE (by decide) (yj _) (c31 h x l a b)
theorem Jaa (h:List Ob) (x:AV) (l:List Seg) (k:Int) (a:SlOf h x 5 (l.map xf)) (b:l.length<1048576):
  ACalls Tryz.prog 243 [x,i64 k] h λr h'=>r=spv (xi l k)/\h'=h:=xE (by decide) (yj _) (c32 h x l k a b)
theorem Ka (l:List Spn) (n:Int):(yU l n).length<=2*l.length+1:=by
 unfold yU
 split
 ·simp
 ·have a:=qS l (zC l (qf (zt l) - min n 32054400))
  have c:=zq l
  have b:=zq (zC l (qf (zt l) - min n 32054400))
  have d:(zC l (qf (zt l) - min n 32054400)).length<=(zt l).length:=jd _ _
  omega
def vV (s:Setup) (c b:List Spn):List Spn:=if s.autoAfter<=qf (zt c)/\qf (zt b)<s.autoBreak then yU (zV c b) (s.autoBreak - qf (zt b)) else []
def xB (s:Setup) (c b:List Spn):List Spn:=zt (zV b (zC b s.paidBreak)++vV s c b)
theorem ZY (s:Setup) (c b:List Spn):(xB s c b).length<=2*c.length+4*b.length+4:=by
 have j:=qS b (zC b s.paidBreak)
 have h:=zq (zC b s.paidBreak)
 have g:=zq b
 have f:(zC b s.paidBreak).length<=(zt b).length:=jd _ _
 have a:(vV s c b).length<=2*(zV c b).length+1:=by
  unfold vV
  split
  ·exact Ka _ _
  ·simp
 have i:=qS c b
 have e:=zq c
 have d:=zq (zV b (zC b s.paidBreak)++vV s c b)
 rw[List.length_append] at d
 unfold xB
 omega
theorem wTa (h:List Ob) (s:Setup) (a:SA) (k:SIn h s a) (t:Times s) (x y:AV) (c b:List Spn) (u:SlOf h x 2 (c.map zz)) (j:SlOf h y 2 (b.map zz)) (K:c.length<65536) (L:b.length<65536):
  ACalls Tryz.prog 242 [qj s a,x,y] h λr h'=>r=spv (xB s c b)/\h'=h:=by
 refine zf Tryz.f242 [.tmp 6] 41 rfl rfl rfl rfl rfl rfl (by decide) (⟨_,_,⟨rfl,rfl⟩,.refl⟩) λB=>?_
 simp only[go_sem,k.ones]
 have G:∀M,(h++[Ob.box 30 (zr s a)]++M)[h.length]? =some (.box 30 (zr s a)):=λM=>by rw[List.append_assoc,zm rfl];rfl
 refine zd (V2 _ y b _ (j.app _) (by omega) (by have:=t.paidBreak;unfold Fit;omega)) ?_
 rintro _ e ⟨rfl,rfl⟩
 simp only[go_sem]
 refine zd (ZW _ y _ b _ (j.app _) (qC _) (by omega) (by have:=jd (zt b) s.paidBreak;have:=zq b;unfold zC;omega)) ?_
 rintro _ e ⟨rfl,rfl⟩
 simp only[go_sem]
 refine zd (qKa _ y b (j.app _) (by omega)) ?_
 rintro _ e ⟨rfl,rfl⟩
 simp only[go_sem]
 refine zp rfl [] 0 [(0,0,[]),(2,0,[]),(3,0,[]),(1,0,[3]),(4,0,[]),(5,0,[]),(6,0,[]),(7,0,[]),(8,0,[]),(9,0,[]),(10,0,[])] rfl (by decide) (by decide) ?_
 simp only[go_sem]
 refine zd (qKa _ x c (u.app _) (by omega)) ?_
 rintro _ e ⟨rfl,rfl⟩
 have J:=qS b (zC b s.paidBreak)
 have p:=jd (zt b) s.paidBreak
 have I:=zq (zC b s.paidBreak)
 have C:=zq b
 have A:(zC b s.paidBreak).length<=(zt b).length:=p
 cases g:decide (qf (zt c)≥s.autoAfter)
 ·have d:vV s c b=[]:=by unfold vV;rw[if_neg];exact λq=>(of_decide_eq_false g) q.1
  have f:xB s c b=zt (zV b (zC b s.paidBreak)):=by unfold xB;rw[d,List.append_nil]
  simp only[go_sem,g,zL]
  refine zd (yW _ _ (zV b (zC b s.paidBreak)) (qC _) (by omega)) ?_
  rintro _ e ⟨rfl,rfl⟩
  rw[<-f]
  simp only[go_sem]
  exact ⟨_,by simp only[go_sem],.inr ⟨h,_,rfl,rfl,yV _,.refl,rfl,rfl⟩⟩
 ·have m:s.autoAfter<=qf (zt c):=of_decide_eq_true g
  cases i:decide (qf (zt b)<s.autoBreak)
  ·have d:vV s c b=[]:=by unfold vV;rw[if_neg];exact λq=>(of_decide_eq_false i) q.2
   have f:xB s c b=zt (zV b (zC b s.paidBreak)):=by unfold xB;rw[d,List.append_nil]
   simp only[go_sem,g,i,zL]
   refine zd (yW _ _ (zV b (zC b s.paidBreak)) (qC _) (by omega)) ?_
   rintro _ e ⟨rfl,rfl⟩
   rw[<-f]
   simp only[go_sem]
   exact ⟨_,by simp only[go_sem],.inr ⟨h,_,rfl,rfl,yV _,.refl,rfl,rfl⟩⟩
  ·have o:qf (zt b)<s.autoBreak:=of_decide_eq_true i
   have d:vV s c b=yU (zV c b) (s.autoBreak - qf (zt b)):=by unfold vV;rw[if_pos ⟨m,o⟩]
   simp only[go_sem,g,i,zL]
   refine zp rfl [.res] 1 [(0,0,[]),(1,0,[]),(2,0,[]),(4,0,[]),(6,0,[]),(5,0,[]),(7,0,[]),(3,0,[5]),(8,0,[]),(9,0,[]),(10,0,[]),(11,0,[])] rfl (by decide) (by decide) ?_
   simp only[go_sem]
   refine zd (ZW _ x y c b (u.app _) (j.app _) (by omega) (by omega)) ?_
   rintro _ e ⟨rfl,rfl⟩
   have D:=qS c b
   have E:=zq c
   have H:=XP (l:=zt b) (λs F=>jC s F)
   have v:=t.autoBreak
   have z:IntKind.wrap .i64 (s.autoBreak - qf (zt b))=s.autoBreak - qf (zt b):=zF (n:=s.autoBreak - qf (zt b)) (by unfold Fit;omega)
   simp only[go_sem,z]
   refine zd (Q6a _ _ (zV c b) (s.autoBreak - qf (zt b)) (qC _) (by omega) (by unfold Fit;omega)) ?_
   rintro _ e ⟨rfl,rfl⟩
   rw[<-d]
   have w:(vV s c b).length<1048576:=by
    have:=Ka (zV c b) (s.autoBreak - qf (zt b))
    rw[d];omega
   simp only[go_sem]
   refine zd (X9 _ (h.length+1) _ _ (zV b (zC b s.paidBreak)) (vV s c b) (by rw[zl (k:=1) rfl];rfl) (qC _) (qC _) (by omega) (by omega)) ?_
   rintro _ e ⟨rfl,rfl⟩
   simp only[go_sem]
   refine zd (yW _ _ (zV b (zC b s.paidBreak)++vV s c b) (qC _) (by rw[List.length_append];omega)) ?_
   rintro _ e ⟨rfl,rfl⟩
   rw[show zt (zV b (zC b s.paidBreak)++vV s c b)=xB s c b from rfl]
   simp only[go_sem]
   exact ⟨_,by simp only[go_sem],.inr ⟨h,_,rfl,rfl,yV _,.refl,rfl,rfl⟩⟩
theorem qTa {n:Nat} (a b:List Spn):(AV.tup [spv a,spv b]).lt n=true:=by
 simp only[AV.lt,zQ,yV,Bool.and_self]
theorem wUa {n:Nat} (a b c:List Spn):(AV.tup [spv a,spv b,spv c]).lt n=true:=by
 simp only[AV.lt,zQ,yV,Bool.and_self]
def jl (s:Setup) (l:List Seg) (d:Int):List Spn:=xB s (qI (zG l) d) (qI (xi l 3) d)
def qJ (s:Setup) (l:List Seg) (d:Int):List Spn:=zV (qI (zG l) d) (jl s l d)
theorem vA (l:List Seg):(zG l).length<=l.length:=by
 have:=zq (l.map spS)
 rw[List.length_map] at this
 exact this
theorem QD (l:List Seg) (k:Int):(xi l k).length<=l.length:=by
 have a:=zq ((l.filter λg=>g.kind==k).map spS)
 have b:=List.length_filter_le (λg:Seg=>g.kind==k) l
 rw[List.length_map] at a
 unfold xi;omega
theorem wO (l:List Spn) (d:Int):(qI l d).length<=l.length+1:=by
 have a:=wL l d 86400
 have b:=zq l
 unfold qI;omega
theorem Zp (s:Setup) (l:List Seg) (d:Int):(jl s l d).length<=6*l.length+10:=by
 have f:=ZY s (qI (zG l) d) (qI (xi l 3) d)
 have c:=wO (zG l) d
 have a:=wO (xi l 3) d
 have e:=vA l
 have b:=QD l 3
 unfold jl;omega
theorem JA (s:Setup) (l:List Seg) (d:Int):(qJ s l d).length<=7*l.length+12:=by
 have f:=qS (qI (zG l) d) (jl s l d)
 have c:=wO (zG l) d
 have a:=Zp s l d
 have e:=vA l
 have b:=zq (qI (zG l) d)
 have g:=zq (jl s l d)
 unfold qJ;omega
theorem xga (h:List Ob) (s:Setup) (a:SA) (k:SIn h s a) (f:SFit s) (c:zE s=true) (x:AV) (l:List Seg) (d:Int) (e:SlOf h x 5 (l.map xf)) (n:l.length<32768):
  ACalls Tryz.prog 184 [qj s a,x,i64 d] h λr h'=>r= .tup [spv (qJ s l d),spv (jl s l d)]/\h'=h:=by
 have b:=vA l
 have j:=QD l 3
 have g:=wO (zG l) d
 have m:=wO (xi l 3) d
 have i:=Zp s l d
 refine zf Tryz.f184 [.tmp 6,.tmp 7] 28 rfl rfl rfl rfl rfl rfl (by decide) (⟨_,_,⟨rfl,rfl⟩,.refl⟩) λB=>?_
 simp only[go_sem,k.ones]
 refine zd (c16 _ s a (k.app _) f) ?_
 rintro _ b ⟨rfl,rfl⟩
 simp only[go_sem,c,zL,Bool.not_true]
 refine zd (vja _ x l (e.app _) (by omega)) ?_
 rintro _ b ⟨rfl,rfl⟩
 simp only[go_sem]
 refine zd (zSa _ _ (zG l) d (qC _) (by omega)) ?_
 rintro _ b ⟨rfl,rfl⟩
 simp only[go_sem]
 refine zp rfl [] 0 [(1,0,[]),(2,0,[]),(4,0,[]),(0,0,[]),(3,0,[0]),(5,0,[0]),(6,0,[]),(7,0,[])] rfl (by decide) (by decide) ?_
 simp only[go_sem,k.ones]
 refine zd (Jaa _ x l 3 (e.app _) (by omega)) ?_
 rintro _ b ⟨rfl,rfl⟩
 simp only[go_sem]
 refine zd (zSa _ _ (xi l 3) d (qC _) (by omega)) ?_
 rintro _ b ⟨rfl,rfl⟩
 simp only[go_sem]
 refine zd (wTa _ s a (k.app _) (Q4 c) _ _ (qI (zG l) d) (qI (xi l 3) d) (qC _) (qC _) (by omega) (by omega)) ?_
 rintro _ b ⟨rfl,rfl⟩
 rw[show xB s (qI (zG l) d) (qI (xi l 3) d)=jl s l d from rfl]
 simp only[go_sem]
 refine zd (ZW _ _ _ (qI (zG l) d) (jl s l d) (qC _) (qC _) (by omega) (by omega)) ?_
 rintro _ b ⟨rfl,rfl⟩
 rw[show zV (qI (zG l) d) (jl s l d)=qJ s l d from rfl]
 simp only[go_sem]
 exact ⟨_,by simp only[go_sem],.inr ⟨h,_,rfl,rfl,qTa _ _,.refl,rfl,rfl⟩⟩
structure L2 (F:List (Nat × Ob)) (h0 h:List Ob) (i j bty ty e:Nat) (r1 r2:List (List AV)):Prop where
 pre:Pre h0 h
 li:h0.length<=i
 lj:h0.length<=j
 ne:i≠j
 kept:∀z∈F,z.1≠i/\z.1≠j/\(∃t cs,z.2= .box t cs)/\h[z.1]? =some z.2
 at_:∃x y,h[i]? =some (.box bty [x])/\h[j]? =some (.box bty [y])/\OwnS h0 h ty e x r1/\OwnS h0 h ty e y r2/\∀a s b t,x= .tl a s->y= .tl b t->a≠b
def BoxK (i j:Nat) (h m:List Ob):Prop:=∀(z:Nat) (t:TypeId) (a:List AV),z≠i->z≠j->h[z]? =some (.box t a)->m[z]? =some (.box t a)
theorem BoxK.app {i j:Nat} {h M:List Ob}:BoxK i j h (h++M):=λz t a _ _ q=>zb q
theorem BoxK.trans {i j:Nat} {a b c:List Ob} (h:BoxK i j a b) (k:BoxK i j b c):BoxK i j a c:=λz t f d e q=>k z t f d e (h z t f d e q)
theorem BoxK.setR {i j id:Nat} {a:List Ob} {o:Ob} {ty e:Nat} {rows:List (List AV)} {st:Nat} (b:a[id]? =some (.row ty e rows st)):BoxK i j a (a.set id o):=λz t c _ _ q=>by
 have:id≠z:=λe=>by rw[e,q] at b;cases b
 rw[List.getElem?_set_ne this];exact q
theorem OwnS.setB {h0 h:List Ob} {ty e:Nat} {x:AV} {rows:List (List AV)} (k:OwnS h0 h ty e x rows) {i:Nat} {o:Ob} {t:TypeId} {c:List AV} (b:h[i]? =some (.box t c)):OwnS h0 (h.set i o) ty e x rows:=by
 rcases k with ⟨rfl,f⟩ | ⟨id,st,d,rfl,a⟩
 ·exact .inl ⟨rfl,f⟩
 ·refine .inr ⟨id,st,d,rfl,?_⟩
  have:i≠id:=λe=>by rw[e,a] at b;cases b
  rw[List.getElem?_set_ne this];exact a
theorem L2.fin {F:List (Nat × Ob)} {h0 h m:List Ob} {i j bty ty e:Nat} {w A d f:List (List AV)} (k:L2 F h0 h i j bty ty e w A) (C:Pre h0 m) (B:BoxK i j h m) {x' y':AV} (E:∃x,m[i]? =some (.box bty [x])) (H:∃x,m[j]? =some (.box bty [x]))
  (D:OwnS h0 m ty e x' d) (u:OwnS h0 m ty e y' f) (n:∀a s b t,x'= .tl a s->y'= .tl b t->a≠b):L2 F h0 ((m.set i (.box bty [x'])).set j (.box bty [y'])) i j bty ty e d f:=by
 obtain ⟨x,g⟩:=E
 obtain ⟨y,G⟩:=H
 have l:(m.set i (.box bty [x']))[i]? =some (.box bty [x']):=List.getElem?_set_self (List.getElem?_eq_some_iff.1 g).1
 have c:(m.set i (.box bty [x']))[j]? =some (.box bty [y]):=by rw[List.getElem?_set_ne k.ne];exact G
 refine ⟨(C.set k.li rfl).set k.lj rfl,k.li,k.lj,k.ne,λz v=>?_,x',y',?_,List.getElem?_set_self (List.getElem?_eq_some_iff.1 c).1,(D.setB g).setB c,(u.setB g).setB c,n⟩
 ·obtain ⟨p,o,⟨t,I,r⟩,q⟩:=k.kept z v
  refine ⟨p,o,⟨t,I,r⟩,?_⟩
  rw[r] at q⊢
  rw[List.getElem?_set_ne (Ne.symm o),List.getElem?_set_ne (Ne.symm p)]
  exact B _ _ _ p o q
 ·rw[List.getElem?_set_ne k.ne.symm];exact l
theorem L2.any {F:List (Nat × Ob)} {h0 h:List Ob} {i j bty ty e:Nat} {l n:List (List AV)} (k:L2 F h0 h i j bty ty e l n) (d c:List (List AV)):∃h',L2 F h0 h' i j bty ty e d c/\ResK h h':=by
 obtain ⟨x,y,o,r,_⟩:=k.at_
 have p:=k.pre.len
 have q:=k.fin (m:=h++[.row ty e d 0,.row ty e c 0]) (k.pre.app (zg rfl (zj rfl))) .app (x':= .tl h.length 0) (y':= .tl (h.length+1) 0) ⟨x,zb o⟩ ⟨y,zb r⟩
  (.inr ⟨_,_,p,rfl,by rw[zm rfl];rfl⟩) (.inr ⟨_,_,by omega,rfl,by rw[zl (k:=1) rfl];rfl⟩) (λa s b t g f=>by injection g with g;injection f with f;omega)
 exact ⟨_,q,k.pre.resK q.pre⟩
theorem ZIa (F:List (Nat × Ob)) (h0 h:List Ob) (i j u v:Nat) (s:Setup) (a:SA) (x:AV) (l:List Seg) (p q:List Spn) (d:Int) (k:L2 F h0 h i j 55 143 2 (p.map zz) (q.map zz)) (ks:SIn h s a) (f:SFit s) (V:zE s=true)
  (hu:(u,Ob.box 30 (zr s a))∈F) (hv:(v,Ob.box 51 [x])∈F) (hx:SlOf h x 5 (l.map xf)) (O:l.length<32768) (hp:p.length<4294967296) (hq:q.length<4294967296):
  ACalls Tryz.prog 183 [i64 d,.ptr u 0,.ptr v 0,.ptr i 0,.ptr j 0] h λr h'=>r= .tup []/\L2 F h0 h' i j 55 143 2 ((p++qJ s l d).map zz) ((q++jl s l d).map zz):=by
 have hex:∃r h',(r=AV.tup []/\L2 F h0 h' i j 55 143 2 ((p++qJ s l d).map zz) ((q++jl s l d).map zz))/\ResK h h':=by
  obtain ⟨h',q1,q2⟩:=k.any ((p++qJ s l d).map zz) ((q++jl s l d).map zz)
  exact ⟨_,h',⟨rfl,q1⟩,q2⟩
 have S:=(k.kept _ hu).2.2.2
 have W:=(k.kept _ hv).2.2.2
 obtain ⟨y,z,w,m,oy,U,Y⟩:=k.at_
 have α:=hx.cells
 have ξ:=JA s l d
 have ρ:=Zp s l d
 have H:=V4 (qJ s l d)
 have C:=V4 (jl s l d)
 have c1:(p.length+(qJ s l d).length)*17<=140737488355328:=by omega
 have c2:(q.length+(jl s l d).length)*17<=140737488355328:=by omega
 have c3:(qJ s l d).length*17<=140737488355328:=by omega
 have c4:(jl s l d).length*17<=140737488355328:=by omega
 refine zf Tryz.f183 [] 21 rfl rfl rfl rfl rfl rfl (by decide) (hex) λB=>?_
 simp only[go_sem,S,W,ks.ones,α]
 refine zd (xga h s a ks f V x l d hx O) ?_
 rintro _ E ⟨rfl,rfl⟩
 simp only[go_sem]
 refine zp rfl [] 0 [(1,0,[]),(4,0,[]),(0,0,[]),(3,0,[]),(2,0,[3]),(5,0,[]),(6,0,[]),(7,0,[])] rfl (by decide) (by decide) ?_
 have c:∀M,(E++M)[i]? =some (.box 55 [y]):=λM=>zb w
 have e:∀M,(E++M)[j]? =some (.box 55 [z]):=λM=>zb m
 have ο:=oy.rows.cells
 have κ:=U.rows.cells
 have Q:i≠j:=k.ne
 have G:j≠i:=k.ne.symm
 have O:=k.pre.len
 have hi:i<E.length:=(List.getElem?_eq_some_iff.1 w).1
 have hj:j<E.length:=(List.getElem?_eq_some_iff.1 m).1
 rcases oy with ⟨rfl,Z⟩ | ⟨ia,sa,R,rfl,A⟩
 ·have T:p=[]:=by simpa using Z
  subst T
  rcases U with ⟨rfl,I⟩ | ⟨ib,sb,v1,rfl,v3⟩
  ·have J:q=[]:=by simpa using I
   subst J
   simp only[go_sem,w,m,c,e,H,C,c3,c4,List.length_map,List.getElem?_set_ne,Q,G,ne_eq,not_false_eq_true]
   exact ⟨_,rfl,.inl ⟨rfl,k.fin (k.pre.app (zg rfl (zj rfl))) .app ⟨_,c _⟩ ⟨_,e _⟩ (.inr ⟨_,_,O,rfl,by rw[zm rfl];rfl⟩) (.inr ⟨_,_,by omega,rfl,by rw[zl (k:=1) rfl];rfl⟩) (λa s b t g n=>by injection g with g;injection n with n;omega)⟩⟩
  ·have D:∀M,(E++M)[ib]? =some (.row 143 2 (q.map zz) sb):=λM=>zb v3
   have n1:ib≠i:=λq=>by rw[q,w] at v3;cases v3
   have n2:ib≠j:=λq=>by rw[q,m] at v3;cases v3
   have X:=(List.getElem?_eq_some_iff.1 v3).1
   simp only[go_sem,w,m,c,e,H,C,c2,c3,D,v3,List.length_map,List.getElem?_set_ne,Q,G,n1,n2,ne_eq,not_false_eq_true]
   refine ⟨_,rfl,.inl ⟨rfl,k.fin ((k.pre.app (zj rfl)).set v1 rfl) (BoxK.app.trans (.setR (D _))) ⟨_,(List.getElem?_set_ne n1).trans (c _)⟩ ⟨_,(List.getElem?_set_ne n2).trans (e _)⟩ (.inr ⟨_,_,O,rfl,?_⟩) (.inr ⟨_,_,v1,rfl,?_⟩) (λa s b t g n=>by injection g with g;injection n with n;omega)⟩⟩
   ·rw[List.getElem?_set_ne (by omega),zm rfl];rfl
   ·rw[List.getElem?_set_self (by rw[List.length_append];omega), <-List.map_append]
 ·have L:∀M,(E++M)[ia]? =some (.row 143 2 (p.map zz) sa):=λM=>zb A
  have n3:ia≠i:=λq=>by rw[q,w] at A;cases A
  have n4:ia≠j:=λq=>by rw[q,m] at A;cases A
  have K:=(List.getElem?_eq_some_iff.1 A).1
  rcases U with ⟨rfl,I⟩ | ⟨ib,sb,v1,rfl,v3⟩
  ·have J:q=[]:=by simpa using I
   subst J
   have P:∀o M,(E.set ia o++M)[i]? =some (.box 55 [.tl ia sa]):=λo M=>zb ((List.getElem?_set_ne n3).trans w)
   have N:∀o M,(E.set ia o++M)[j]? =some (.box 55 [.v (.slice none 0 0)]):=λo M=>zb ((List.getElem?_set_ne n4).trans m)
   simp only[go_sem,w,m,c,e,P,N,H,C,c1,c4,L,A,List.length_map,List.getElem?_set_ne,Q,G,n3,n4,ne_eq,not_false_eq_true]
   refine ⟨_,rfl,.inl ⟨rfl,k.fin ((k.pre.set R rfl).app (zj rfl)) (BoxK.trans (.setR A) .app) ⟨_,P _ _⟩ ⟨_,N _ _⟩ (.inr ⟨_,_,R,rfl,?_⟩) (.inr ⟨_,_,O,rfl,?_⟩) (λa s b t g n=>by injection g with g;injection n with n;omega)⟩⟩
   ·refine zb ?_
    rw[List.getElem?_set_self K, <-List.map_append]
   ·rw[zm (by rw[List.length_set])];rfl
  ·have D:∀M,(E++M)[ib]? =some (.row 143 2 (q.map zz) sb):=λM=>zb v3
   have n1:ib≠i:=λq=>by rw[q,w] at v3;cases v3
   have n2:ib≠j:=λq=>by rw[q,m] at v3;cases v3
   have n5:ia≠ib:=Y _ _ _ _ rfl rfl
   have X:=(List.getElem?_eq_some_iff.1 v3).1
   simp only[go_sem,w,m,c,e,H,C,c1,c2,L,D,A,v3,List.length_map,List.getElem?_set_ne,Q,G,n1,n2,n3,n4,n5,ne_eq,not_false_eq_true]
   refine ⟨_,rfl,.inl ⟨rfl,k.fin ((k.pre.set R rfl).set v1 rfl) (BoxK.trans (.setR A) (.setR ((List.getElem?_set_ne n5).trans v3))) ⟨_,(List.getElem?_set_ne n1).trans ((List.getElem?_set_ne n3).trans w)⟩ ⟨_,(List.getElem?_set_ne n2).trans ((List.getElem?_set_ne n4).trans m)⟩ (.inr ⟨_,_,R,rfl,?_⟩) (.inr ⟨_,_,v1,rfl,?_⟩) (λa s b t g n=>by injection g with g;injection n with n;omega)⟩⟩
   ·rw[List.getElem?_set_ne n5.symm,List.getElem?_set_self K, <-List.map_append]
   ·rw[List.getElem?_set_self (by rw[List.length_set];omega), <-List.map_append]
def qL (s:Setup) (l:List Seg):List Spn:=zt ((zD (zG l)).flatMap (qJ s l))
def jD (s:Setup) (l:List Seg):List Spn:=zt ((zD (zG l)).flatMap (jl s l))
theorem Kb {f:Int->List Spn} {m:Nat} (a:∀d,(f d).length<=m):∀l:List Int,(l.flatMap f).length<=m*l.length
 | []=>by simp
 | d::l=>by
   have c:=a d
   have b:=Kb a l
   rw[List.flatMap_cons,List.length_append,List.length_cons,Nat.mul_succ];omega
theorem Zq {f:Int->List Spn} {l:List Int} {n:Nat} (h:n<l.length):(l.take (n+1)).flatMap f=(l.take n).flatMap f++f l[n]:=by
 rw[<-List.take_append_getElem h,List.flatMap_append];simp
theorem Jba (h:List Ob) (s:Setup) (a:SA) (k:SIn h s a) (f:SFit s) (O:zE s=true) (x:AV) (l:List Seg) (I:SlOf h x 5 (l.map xf)) (hl:l.length<32768):
  ACalls Tryz.prog 114 [qj s a,x] h λr h'=>r= .tup [spv (qL s l),spv (jD s l)]/\h'=h:=by
 have R:=I.cells
 have U:=I.one
 have θ:=vA l
 refine zf Tryz.f114 [.cell 4 55,.cell 5 55] 29 rfl rfl rfl rfl rfl rfl (by decide) (⟨_,_,⟨rfl,rfl⟩,.refl⟩) λB=>?_
 simp only[go_sem,k.ones,U,R]
 refine zd (vja _ x l (I.app _) (by omega)) ?_
 rintro _ h1 ⟨rfl,rfl⟩
 simp only[go_sem]
 refine zd (kWa _ _ (zG l) (qC _) (by omega)) ?_
 rintro _ h1 ⟨rfl,rfl⟩
 have Q:=kT (zG l)
 have i:qL s l=zt (((zD (zG l)).take (zD (zG l)).length).flatMap (qJ s l)):=by rw[List.take_length];rfl
 have d:jD s l=zt (((zD (zG l)).take (zD (zG l)).length).flatMap (jl s l)):=by rw[List.take_length];rfl
 obtain ⟨v,hv⟩:∃v,v=zD (zG l):=⟨_,rfl⟩
 rw[<-hv] at Q i d⊢
 simp only[go_sem,List.length_map]
 obtain ⟨F,N⟩:∃F,F=[(h.length,Ob.box 30 (zr s a)),(h.length+1,Ob.box 51 [x])]:=⟨_,rfl⟩
 have hu:(h.length,Ob.box 30 (zr s a))∈F:=by rw[N];simp
 have hw:(h.length+1,Ob.box 51 [x])∈F:=by rw[N];simp
 obtain ⟨G,S⟩:∃G,G=AV.fn (.func 183) [] [.ptr h.length 0,.ptr (h.length+1) 0,.ptr (h.length+2) 0,.ptr (h.length+3) 0]:=⟨_,rfl⟩
 rw[<-S]
 refine zk (by decide) (λm T h'=>∃n:Nat,n<=v.length/\L2 F h h' (h.length+2) (h.length+3) 55 143 2 (((v.take n).flatMap (qJ s l)).map zz) (((v.take n).flatMap (jl s l)).map zz)/\T 4= .ptr (h.length+2) 0/\T 5= .ptr (h.length+3) 0/\T 6= .sl 1 (v.map zJ)/\T 7=G/\T 14=i64 v.length/\T 15=i64 n/\m=v.length - n) v.length
  ⟨0,by omega,⟨⟨_,rfl,zg rfl (zg rfl (zg rfl (zj rfl)))⟩,by omega,by omega,by omega,(λz c=>by
   rw[N] at c
   rcases List.mem_cons.1 c with rfl | c
   ·exact ⟨by show h.length≠h.length+2;omega,by show h.length≠h.length+3;omega,⟨_,_,rfl⟩,by rw[zm rfl];rfl⟩
   ·rw[List.mem_singleton] at c
    subst c
    exact ⟨by show h.length+1≠h.length+2;omega,by show h.length+1≠h.length+3;omega,⟨_,_,rfl⟩,by rw[zl (k:=1) rfl];rfl⟩),
   _,_,by rw[zl (k:=2) rfl];rfl,by rw[zl (k:=3) rfl];rfl,.inl ⟨rfl,rfl⟩,.inl ⟨rfl,rfl⟩,λa s b t E=>by cases E⟩,by simp only[go_sem],by simp only[go_sem],by simp only[go_sem],by simp only[go_sem],by (simp only[go_sem]<;>rfl),by (simp only[go_sem]<;>rfl),rfl⟩ ?_
 rintro m T h' ⟨n,ε,j,t4,t5,t6,Z,C,o,rfl⟩
 have u:=Kb (JA s l) (v.take n)
 have w:=Kb (Zp s l) (v.take n)
 rw[List.length_take] at u w
 have H:(7*l.length+12)*min n v.length<=(7*32768+12)*371:=Nat.mul_le_mul (by omega) (by omega)
 have q:(6*l.length+10)*min n v.length<=(6*32768+10)*371:=Nat.mul_le_mul (by omega) (by omega)
 simp only[go_sem,C,o]
 refine ways (λe=>?_) (λe=>?_)
 ·have p:=dlt e
  have g:=QC p
  have P:(n:Int)<v.length:=by omega
  have E:=Zq (f:=qJ s l) p
  have X:=Zq (f:=jl s l) p
  obtain ⟨z,c⟩:∃z,z=v[n]:=⟨_,rfl⟩
  rw[<-c] at g E X
  simp only[go_sem,t6,Z,o,g,P,S,List.length_map,Int.toNat_natCast,Int.natCast_nonneg]
  refine zd (ZIa F h h' (h.length+2) (h.length+3) h.length (h.length+1) s a x l _ _ z j (j.pre.sin k) f O hu hw (j.pre.sl I) hl (by omega) (by omega)) ?_
  rintro _ h6 ⟨rfl,k6⟩
  rw[<-E, <-X] at k6
  simp only[go_sem,o]
  exact ⟨v.length - (n+1),by omega,n+1,by omega,k6,t4,t5,t6,by rw[Z,S],C,zw (by omega) rfl,rfl⟩
 ·have β:=jk e
  have K:n=v.length:=by omega
  subst K
  obtain ⟨y,z,J,c,oy,oz,δ⟩:=j.at_
  have A:=j.pre
  simp only[go_sem]
  refine zp rfl [] 0 [(0,0,[]),(2,0,[]),(1,0,[2]),(3,0,[]),(4,0,[]),(5,0,[])] rfl (by decide) (by decide) ?_
  have ν:∀M,(h'++M)[h.length+2]? =some (.box 55 [y]):=λM=>zb J
  have ξ:∀M,(h'++M)[h.length+3]? =some (.box 55 [z]):=λM=>zb c
  simp only[go_sem,t4,t5,J,c]
  refine zd (yW _ y _ oy.rows (by omega)) ?_
  rintro _ h' ⟨rfl,rfl⟩
  rw[<-i]
  simp only[go_sem,c,t5]
  refine zd (yW _ z _ oz.rows (by omega)) ?_
  rintro _ h' ⟨rfl,rfl⟩
  rw[<-d]
  have ne:h.length+2≠h.length+3:=by omega
  have D:h.length+3≠h.length+2:=by omega
  have Y:=(List.getElem?_eq_some_iff.1 J).1
  have W:=(List.getElem?_eq_some_iff.1 c).1
  simp only[go_sem,t4,t5,J,c,List.getElem?_set_ne,ne,D,ne_eq,not_false_eq_true]
  have V:Pre h ((h'.set (h.length+2) (.box 55 [spv (qL s l)])).set (h.length+3) (.box 55 [spv (jD s l)])):=(A.set j.li rfl).set j.lj rfl
  obtain ⟨L,hL,hN⟩:=V
  refine ⟨.tup [spv (qL s l),spv (jD s l)],?_,.inr ⟨h,L,hL,rfl,qTa _ _,.refl,rfl,rfl⟩⟩
  have q1:((h'.set (h.length+2) (.box 55 [spv (qL s l)])).set (h.length+3) (.box 55 [spv (jD s l)]))[h.length+2]? =some (.box 55 [spv (qL s l)]):=by
   rw[List.getElem?_set_ne D,List.getElem?_set_self (by omega)]
  have q2:((h'.set (h.length+2) (.box 55 [spv (qL s l)])).set (h.length+3) (.box 55 [spv (jD s l)]))[h.length+3]? =some (.box 55 [spv (jD s l)]):=by
   rw[List.getElem?_set_self (by rw[List.length_set];omega)]
  simp only[go_sem,t4,t5,q1,q2]
end Go.Proofs.YtigdlmpjijhpaaaGreat.Ax
namespace Go.Proofs.YtigdlmpjijhpaaaGreat.Ax
open Go
theorem Q5 {C:List Spn} {n size:Int} (o:0<size) {s:Spn} (f:s∈jR C n size):((∃p∈zt C,s.from_=p.from_)∨s.from_=n*size)/\n*size<=s.from_/\s.from_<(n+1)*size:=by
 unfold jR at f
 split at f
 ·cases f
 ·rename_i A
  have i:0<=n:=by omega
  have v:0<=n*size:=Int.mul_nonneg i (by omega)
  have g:=jC s f
  have m:=(wK (a:=C) (b:=[⟨n*size,(n+1)*size⟩]) (t:=s.from_)).1 ⟨s,f,by omega,g.2.1⟩
  obtain ⟨_,_,y,c,j,h⟩:=m
  rw[List.mem_singleton] at c
  subst c
  refine ⟨?_,j,h⟩
  obtain ⟨y,c,e⟩:=ZS f
  unfold qP at c
  obtain ⟨z,d,rfl⟩:=List.mem_map.1 (List.mem_filter.1 c).1
  obtain ⟨p,k,d⟩:=List.mem_flatMap.1 d
  obtain ⟨q,l,rfl⟩:=List.mem_map.1 d
  have x:=(jC p k).1
  have w:=(jC q l).1
  obtain ⟨y,c,r⟩:=ZS l
  unfold qP at c
  obtain ⟨z,d,rfl⟩:=List.mem_map.1 (List.mem_filter.1 c).1
  rw[List.mem_singleton] at d
  subst d
  simp only[jp] at r
  simp only[jp,vP] at e
  by_cases u:p.from_<=q.from_
  ·right;omega
  ·left;exact ⟨p,k,by omega⟩
theorem xha (C:List Spn) (size:Int) (a:0<size) (L:List Int) (f:L.Nodup):(L.flatMap λd=>jR C d size).length<=(zt C).length+L.length:=by
 have key:∀L:List Int,L.Nodup->((L.flatMap λd=>jR C d size).map (·.from_)).Nodup:=λL=>by
  induction L with
  | nil=>intro _;simp
  | cons d L u=>
    intro f
    rw[List.nodup_cons] at f
    rw[List.flatMap_cons,List.map_append,List.nodup_append]
    refine ⟨?_,u f.2,?_⟩
    ·unfold jR
     split
     ·simp
     ·exact (qK _).froms
    ·intro x k y w e
     obtain ⟨s,c,rfl⟩:=List.mem_map.1 k
     obtain ⟨t,l,rfl⟩:=List.mem_map.1 w
     obtain ⟨h,i,l⟩:=List.mem_flatMap.1 l
     have n:=(Q5 a c).2
     have z:=(Q5 a l).2
     have j:d≠h:=λq=>f.1 (by rw[q];exact i)
     rw[e] at n
     rcases Int.lt_or_gt_of_ne j with v | o
     ·have:(d+1)*size<=h*size:=Int.mul_le_mul_of_nonneg_right (by omega) (by omega)
      omega
     ·have:(h+1)*size<=d*size:=Int.mul_le_mul_of_nonneg_right (by omega) (by omega)
      omega
 have g:=Zn (key L f) (b:=(zt C).map (·.from_)++L.map (· *size)) λx k=>by
  obtain ⟨s,c,rfl⟩:=List.mem_map.1 k
  obtain ⟨d,m,c⟩:=List.mem_flatMap.1 c
  rw[List.mem_append]
  rcases (Q5 a c).1 with ⟨p,r,e⟩ | e
  ·exact .inl (List.mem_map.2 ⟨p,r,e.symm⟩)
  ·exact .inr (List.mem_map.2 ⟨d,m,e.symm⟩)
 simpa using g
theorem y7 (C:List Spn) (L:List Int) (a:L.Nodup):(L.flatMap (qI C)).length<=(zt C).length+L.length:=xha C 86400 (by decide) L a
theorem qUa {f g:Int->List Spn} {a b:Nat} (h:∀d,(f d).length<=a*(g d).length+b):∀L:List Int,(L.flatMap f).length<=a*(L.flatMap g).length+b*L.length
 | []=>by simp
 | d::L=>by
   have c:=h d
   have e:=qUa h L
   rw[List.flatMap_cons,List.flatMap_cons,List.length_append,List.length_append,List.length_cons,Nat.mul_add,Nat.mul_succ];omega
theorem Kc {f g k:Int->List Spn} {a b c:Nat} (h:∀d,(f d).length<=a*(g d).length+b*(k d).length+c):∀L:List Int,(L.flatMap f).length<=a*(L.flatMap g).length+b*(L.flatMap k).length+c*L.length
 | []=>by simp
 | d::L=>by
   have e:=h d
   have i:=Kc h L
   rw[List.flatMap_cons,List.flatMap_cons,List.flatMap_cons,List.length_append,List.length_append,List.length_append,List.length_cons,Nat.mul_add,Nat.mul_add,Nat.mul_succ];omega
theorem kC {L:List Int} (h:L.Pairwise (· < ·)):L.Nodup:=h.imp λ{a b} q e=>by omega
end Go.Proofs.YtigdlmpjijhpaaaGreat.Ax
namespace Go.Proofs.YtigdlmpjijhpaaaGreat.Ax
open Go Go.Proofs
set_option maxRecDepth 100000
theorem z0a (s:Setup) (l:List Seg) (d:Int):(qJ s l d).length<=3*(qI (zG l) d).length+4*(qI (xi l 3) d).length+5:=by
 have a:=qS (qI (zG l) d) (jl s l d)
 have b:=ZY s (qI (zG l) d) (qI (xi l 3) d)
 have e:=zq (qI (zG l) d)
 have c:=zq (jl s l d)
 unfold qJ
 unfold jl at*
 omega
theorem Yt (s:Setup) (l:List Seg):(qL s l).length<=7*l.length+4452:=by
 have h0:=zq ((zD (zG l)).flatMap (qJ s l))
 have f:=Kc (z0a s l) (zD (zG l))
 have d:=y7 (zG l) _ (kC (jU (zG l)).1)
 have b:=y7 (xi l 3) _ (kC (jU (zG l)).1)
 have e:=kT (zG l)
 have c:=zq (zG l)
 have h:=zq (xi l 3)
 have g:=vA l
 have a:=QD l 3
 unfold qL
 omega
theorem Yu (s:Setup) (l:List Seg):(jD s l).length<=6*l.length+4452:=by
 have h0:=zq ((zD (zG l)).flatMap (jl s l))
 have h:=Kc (λd=>ZY s (qI (zG l) d) (qI (xi l 3) d)) (zD (zG l))
 have f:=y7 (zG l) _ (kC (jU (zG l)).1)
 have b:=y7 (xi l 3) _ (kC (jU (zG l)).1)
 have g:=kT (zG l)
 have c:=zq (zG l)
 have j:=zq (xi l 3)
 have i:=vA l
 have a:=QD l 3
 unfold jD
 have e:(zD (zG l)).flatMap (jl s l)=(zD (zG l)).flatMap λd=>xB s (qI (zG l) d) (qI (xi l 3) d):=rfl
 rw[e] at h0⊢
 omega
def Q6 (v:List Spn) (d:Int):AV:=spv (qI v d)
theorem wVa (j:Nat) (v:List Spn) (D:v.length<1048576):Zwa Tryz.prog 244 [.ptr j 0] (λh=>h[j]? =some (.box 55 [spv v])) ((zD v).map (Q6 v)):=by
 intro l K x f w g a y A
 have hex:∃(r:AV) (h':List Ob),K ((zD v).map (Q6 v)).length h'/\ResK x h':=by
  obtain ⟨h',q⟩:=a
  exact ⟨.tup [],h',q⟩
 have I:=g 0 x f
 have o:=kT v
 refine zf Tryz.f244 [] 19 rfl rfl rfl rfl rfl rfl (by decide) (hex) λB=>?_
 simp only[go_sem,I,List.length_map]
 refine zd (kWa _ _ v (qC _) D) ?_
 rintro _ N ⟨rfl,rfl⟩
 rw[List.length_map] at a
 obtain ⟨W,H⟩:∃W,W=zD v:=⟨_,rfl⟩
 rw[<-H] at o a A⊢
 simp only[go_sem,List.length_map]
 refine zk (by decide) (λm T h'=>∃(i:Nat),i<=W.length/\K i h'/\T 0= .v (.func (.yield l) #[] #[])/\T 1= .ptr j 0/\T 6= .sl 1 (W.map zJ)/\T 7=i64 W.length/\T 8=i64 i/\m=W.length - i) W.length
  ⟨0,by omega,f,by simp only[go_sem],by simp only[go_sem],by simp only[go_sem],by (simp only[go_sem]<;>rfl),by (simp only[go_sem]<;>rfl),rfl⟩ ?_
 rintro m T h' ⟨i,M,t,t0,t1,t6,C,t8,rfl⟩
 simp only[go_sem,C,t8]
 refine ways (λe=>?_) (λe=>?_)
 ·have d:=dlt e
  have b:=QC d
  have s:(i:Int)<W.length:=by omega
  have u:=g i h' t
  have n:(W.map (Q6 v))[i]? =some (Q6 v W[i]):=by rw[List.getElem?_map,List.getElem?_eq_getElem d];rfl
  have c:=A i _ h' n t
  obtain ⟨z,F⟩:∃z,z=W[i]:=⟨_,rfl⟩
  rw[<-F] at b c
  simp only[go_sem,t0,t1,t6,t8,b,u,s,List.length_map,Int.toNat_natCast,Int.natCast_nonneg]
  refine zd (zSa _ _ v z (qC _) D) ?_
  rintro _ L ⟨rfl,rfl⟩
  simp only[go_sem]
  refine yI c ?_
  rintro J ⟨k,G⟩
  simp only[go_sem,t8]
  exact ⟨W.length - (i+1),by omega,i+1,by omega,k,t0,t1,t6,C,zw (by omega) rfl,rfl⟩
 ·have E:=jk e
  have p:i=W.length:=by omega
  subst p
  simp only[go_sem]
  exact ⟨_,rfl,.inl t⟩
theorem xia (h:List Ob) (v:List Spn):ACalls Tryz.prog 185 [spv v] h λr h'=>r= .fn (.func 244) [] [.ptr h.length 0]/\h'=h++[.box 55 [spv v]]:=by
 refine zf Tryz.f185 [.tmp 2] 4 rfl rfl rfl rfl rfl rfl (by decide) (⟨_,_,⟨rfl,rfl⟩,zW⟩) λB=>?_
 simp only[go_sem]
 exact ⟨_,rfl,.inl ⟨rfl,rfl⟩⟩
theorem vka (h:List Ob) (j:Nat) (v:List Spn) (n:Int) (c:h[j]? =some (.box 55 [spv v])) (a:v.length<1048576) (b:Fit n):
  ACalls Tryz.prog 186 [i64 n,.ptr j 0] h λr h'=>r=spv (zC v n)/\h'=h:=by
 refine zf Tryz.f186 [.tmp 3] 7 rfl rfl rfl rfl rfl rfl (by decide) (⟨_,_,⟨rfl,rfl⟩,.refl⟩) λB=>?_
 simp only[go_sem,c]
 refine zd (V2 _ _ v n (qC _) a b) ?_
 rintro _ d ⟨rfl,rfl⟩
 simp only[go_sem]
 exact ⟨_,by simp only[go_sem],.inl ⟨rfl,rfl⟩⟩
def Sv (y:AV) (R:List Spn):Prop:=y=spv R∨y= .v (.slice none 0 0)/\R=[]
theorem Sv.sl {h:List Ob} {y:AV} {R:List Spn} (k:Sv y R):SlOf h y 2 (R.map zz):=by
 rcases k with rfl | ⟨rfl,rfl⟩
 ·exact qC _
 ·exact ⟨rfl,λh=>absurd rfl h⟩
def vt (s:Setup) (W:List Spn) (l:List Int):List Spn:=l.flatMap λd=>zC (qI W d) s.dayReg
def kD (s:Setup) (W:List Spn) (l:List Int):List Spn:=l.flatMap λd=>zC (qI W d) s.dayOver
def qY (s:Setup) (p:List Spn) (w:Int):List Spn × List Spn × List Spn:=
 let W:=zH p w
 let t:=zC (vt s W (zD W)) s.weekReg
 (t,zV (kD s W (zD W)) t,zV W (kD s W (zD W)))
theorem kE (W:List Spn) (n:Int) (L:List Int) (h:L.Nodup):(L.flatMap λd=>zC (qI W d) n).length<=W.length+L.length:=by
 have c:=qUa (f:=λd=>zC (qI W d) n) (g:=qI W) (a:=1) (b:=0) (λd=>by
  have c:(zC (qI W d) n).length<=(zt (qI W d)).length:=jd _ _
  have e:=zq (qI W d)
  omega) L
 have e:=y7 W L h
 have i:=zq W
 omega
theorem vla {s:Setup} {W:List Spn} {l:List Int} {n:Nat} (h:n<l.length):vt s W (l.take (n+1))=vt s W (l.take n)++zC (qI W l[n]) s.dayReg:=Zq h
theorem vma {s:Setup} {W:List Spn} {l:List Int} {n:Nat} (h:n<l.length):kD s W (l.take (n+1))=kD s W (l.take n)++zC (qI W l[n]) s.dayOver:=Zq h
structure KOv (h:List Ob) (s:Setup) (a:SA) (W:List Spn) (l:List Int) (h':List Ob):Prop where
 pre:Pre h h'
 set_:h'[h.length]? =some (.box 30 (zr s a))
 reg:∃y,h'[h.length+1]? =some (.box 55 [y])/\Sv y (vt s W l)
 ovr:∃y,h'[h.length+2]? =some (.box 55 [y])/\Sv y (kD s W l)
 wk:h'[h.length+3]? =some (.box 55 [spv W])
theorem KOv.app {h:List Ob} {s:Setup} {a:SA} {W:List Spn} {l:List Int} {h':List Ob} (k:KOv h s a W l h') {M:List Ob} (b:NoRes M):KOv h s a W l (h'++M):=
 ⟨k.pre.app b,zb k.set_,let ⟨y,q1,q2⟩:=k.reg;⟨y,zb q1,q2⟩,let ⟨y,q1,q2⟩:=k.ovr;⟨y,zb q1,q2⟩,zb k.wk⟩
theorem KOv.raw {h:List Ob} {s:Setup} {a:SA} {W:List Spn} {b:List Int} {h':List Ob} (k:KOv h s a W b h') {j l o ks us o'} (g:h.length<=j) (f:h'[j]? =some (.raw l o ks us)):KOv h s a W b (h'.set j (.raw l o' ks us)):=by
 have c:∀(z:Nat) t d,h'[z]? =some (.box t d)->(h'.set j (.raw l o' ks us))[z]? =some (.box t d):=λz t d q=>by
  have:j≠z:=λe=>by rw[e,q] at f;cases f
  rw[List.getElem?_set_ne this];exact q
 exact ⟨k.pre.set g rfl,c _ _ _ k.set_,let ⟨y,q1,q2⟩:=k.reg;⟨y,c _ _ _ q1,q2⟩,let ⟨y,q1,q2⟩:=k.ovr;⟨y,c _ _ _ q1,q2⟩,c _ _ _ k.wk⟩
theorem KOv.put {h:List Ob} {s:Setup} {a:SA} {W:List Spn} {l l':List Int} {h':List Ob} (k:KOv h s a W l h') {M:List Ob} (d:NoRes M) {y z:AV} (f:Sv y (vt s W l')) (c:Sv z (kD s W l')):
  KOv h s a W l' (((h'++M).set (h.length+1) (.box 55 [y])).set (h.length+2) (.box 55 [z])):=by
 obtain ⟨i,e,_⟩:=k.reg
 obtain ⟨z0,b,_⟩:=k.ovr
 have g:=(List.getElem?_eq_some_iff.1 e).1
 have l2:=(List.getElem?_eq_some_iff.1 b).1
 refine ⟨((k.pre.app d).set (by omega) rfl).set (by omega) rfl,?_,⟨y,?_,f⟩,⟨z,?_,c⟩,?_⟩
 ·rw[List.getElem?_set_ne (by omega),List.getElem?_set_ne (by omega)];exact zb k.set_
 ·rw[List.getElem?_set_ne (by omega),List.getElem?_set_self (by rw[List.length_append];omega)]
 ·rw[List.getElem?_set_self (by rw[List.length_set,List.length_append];omega)]
 ·rw[List.getElem?_set_ne (by omega),List.getElem?_set_ne (by omega)];exact zb k.wk
theorem KOv.raws {h:List Ob} {s:Setup} {a:SA} {W:List Spn} {l:List Int} {h':List Ob} (k:KOv h s a W l h') {M:List Ob} {o o':Ob}:RawK h' (((h'++M).set (h.length+1) o).set (h.length+2) o'):=by
 obtain ⟨d,b,_⟩:=k.reg
 obtain ⟨z0,c,_⟩:=k.ovr
 exact (RawK.app.trans (.setB (zb b))).trans (.setB ((List.getElem?_set_ne (by omega)).trans (zb c)))
theorem Jca (h:List Ob) (s:Setup) (a:SA) (k:SIn h s a) (f:SFit s) (K:zE s=true) (x:AV) (p:List Spn) (w:Int) (u:SlOf h x 2 (p.map zz)) (hl:p.length<262144):
  ACalls Tryz.prog 115 [qj s a,x,i64 w] h λr h'=>r= .tup [spv (qY s p w).1,spv (qY s p w).2.1,spv (qY s p w).2.2]/\h'=h:=by
 have ht:=Q4 K
 refine Jw Tryz.f115 [.tmp 6,.tmp 7,.tmp 8] 49 rfl rfl rfl rfl rfl rfl (⟨_,rfl⟩) λbs=>?_
 refine jq (by decide) ?_
 simp only[go_sem,k.ones]
 refine jq (by decide) ?_
 simp only[go_sem,k.ones]
 refine zd (c16 _ s a (k.app _) f) ?_
 rintro _ h1 ⟨rfl,rfl⟩
 simp only[go_sem,K,zL,Bool.not_true]
 refine jq (by decide) ?_
 simp only[go_sem]
 refine jq (by decide) ?_
 simp only[go_sem]
 refine zd (qLa _ x p w (u.app _) (by omega)) ?_
 rintro _ h1 ⟨rfl,rfl⟩
 simp only[go_sem]
 have U:(zH p w).length<=(zt p).length+1:=wL _ _ _
 have hnl:=zq p
 obtain ⟨W,hW⟩:∃W,W=zH p w:=⟨_,rfl⟩
 have Y:qY s p w=(zC (vt s W (zD W)) s.weekReg,zV (kD s W (zD W)) (zC (vt s W (zD W)) s.weekReg),zV W (kD s W (zD W))):=by rw[hW];rfl
 rw[Y]
 rw[<-hW] at U⊢
 refine XX ?_
 refine jq (by decide) ?_
 simp only[go_sem]
 refine zd (xia _ W) ?_
 rintro _ h1 ⟨rfl,rfl⟩
 simp only[go_sem]
 have ο:=kT W
 have base:KOv h s a W ((zD W).take 0) (h++[.box 30 (zr s a),.box 55 [.v (.slice none 0 0)],.box 55 [.v (.slice none 0 0)],.box 55 [spv W]]):=
  ⟨⟨_,rfl,zg rfl (zg rfl (zg rfl (zj rfl)))⟩,by rw[zm rfl];rfl,⟨_,by rw[zl (k:=1) rfl];rfl,.inr ⟨rfl,rfl⟩⟩,⟨_,by rw[zl (k:=2) rfl];rfl,.inr ⟨rfl,rfl⟩⟩,by rw[zl (k:=3) rfl];rfl⟩
 refine qOa (Jv (Vb (XY (p:=22) (by decide) rfl (by simp only[go_sem]) (wVa (h.length+3) W (by omega))
  (λn h'=>KOv h s a W ((zD W).take n) h')
  (λn x E A=>E 3= .ptr h.length 0/\E 9= .ptr (h.length+1) 0/\E 10= .ptr (h.length+2) 0/\∃d j,(zD W)[n]? =some d/\E 12= .ptr j 0/\A[j]? =some (.box 55 [spv (qI W d)])/\j≠h.length+1/\j≠h.length+2/\KOv h s a W ((zD W).take n) A)
  ?_ (λn h' M B k=>k.app B) (λn h' k=>k.wk) ?_ ?_ ?_ ?_ ?_) ?_))
 ·exact λM B=>base.app B
 ·intro M B
  have q:=(base.app B).put (M:=[]) (l':=(zD W).take ((zD W).map (Q6 W)).length) jN (.inl rfl) (.inl rfl)
  refine ⟨_,q,(base.app B).pre.resK q.pre,(base.app B).raws⟩
 ·intro n h' j l o ks us o' hj k P
  exact k.raw (Nat.le_trans (by rw[List.length_append];exact Nat.le_add_right _ _) hj) P
 ·rintro n x E A j l o ks us o' hj ⟨t3,t9,t10,d,m,q1,Z,Q,q4,q5,k⟩ P
  refine ⟨t3,t9,t10,d,m,q1,Z,?_,q4,q5,k.raw (Nat.le_trans (by rw[List.length_append];exact Nat.le_add_right _ _) hj) P⟩
  have:j≠m:=λe=>by rw[e,Q] at P;cases P
  rw[List.getElem?_set_ne this];exact Q
 ·intro bb l n x h' u k
  rw[List.getElem?_map] at u
  cases hs:(zD W)[n]? with
  | none=>rw[hs] at u;cases u
  | some d=>
    rw[hs] at u
    injection u with u
    subst u
    refine ym (by decide) (by decide) ?_
    have τ:=(List.getElem?_eq_some_iff.1 k.wk).1
    simp only[go_sem,kZa,Q6]
    exact ⟨⟨d,h'.length,rfl,rfl,by rw[zm rfl];rfl,by omega,by omega,k.app (zj rfl)⟩,.app,.app⟩
 ·rintro bb l n x E A u ⟨t3,t9,t10,d,m,q1,Z,Q,q4,q5,k⟩
  obtain ⟨y,J,R⟩:=k.reg
  obtain ⟨z,H,I⟩:=k.ovr
  refine Va (wFa (ym (by decide) (by decide) ?_))
  simp only[go_sem,Z]
  refine kXa rfl [.res,.res] 2 [(1,0,[]),(2,0,[]),(8,0,[]),(9,0,[]),(0,0,[]),(3,0,[]),(7,0,[]),(10,0,[]),(4,0,[0,7,10]),(5,0,[]),(6,0,[7,10]),(11,0,[7]),(12,1,[]),(13,0,[]),(14,0,[]),(15,0,[])] rfl (by decide) (by decide) (by decide) (λ_ _ q=>by cases q.1) ?_
  have c:∀M,(A++M)[h.length+1]? =some (.box 55 [y]):=λM=>zb J
  have g:∀M,(A++M)[h.length+2]? =some (.box 55 [z]):=λM=>zb H
  have b:∀M,(A++M)[h.length]? =some (.box 30 (zr s a)):=λM=>zb k.set_
  have α:=(R.sl (h:=h)).cells
  have X:=(R.sl (h:=h)).one
  have V:=(I.sl (h:=h)).cells
  have δ:=(I.sl (h:=h)).one
  have i:=kC ((jU W).1.sublist (List.take_sublist n _))
  have F:=kE W s.dayReg _ i
  have C:=kE W s.dayOver _ i
  rw[List.length_take] at F C
  have χ:=wO W d
  have ω:(zC (qI W d) s.dayReg).length<=(zt (qI W d)).length:=jd _ _
  have ρ:(zC (qI W d) s.dayOver).length<=(zt (qI W d)).length:=jd _ _
  have υ:=zq (qI W d)
  have ξ:=ht.dayReg
  have σ:=ht.dayOver
  obtain ⟨O,T⟩:=List.getElem?_eq_some_iff.1 q1
  have e1:=vla (s:=s) (W:=W) O
  have e2:=vma (s:=s) (W:=W) O
  rw[T] at e1 e2
  simp only[go_sem,t3,t9,t10,c,g,b]
  refine zd (vka _ m (qI W d) s.dayReg (zb Q) (by omega) (by unfold Fit;omega)) ?_
  rintro _ G ⟨rfl,rfl⟩
  simp only[go_sem,X,α,t3,t9,t10,c,g,b]
  refine zd (X9 _ A.length y _ (vt s W ((zD W).take n)) (zC (qI W d) s.dayReg) (by rw[zm rfl];rfl) R.sl (qC _) (by unfold vt;omega) (by omega)) ?_
  rintro _ G ⟨rfl,rfl⟩
  rw[<-e1]
  simp only[go_sem,t3,t9,t10,c,g,b]
  refine zd (vka _ m (qI W d) s.dayOver (zb Q) (by omega) (by unfold Fit;omega)) ?_
  rintro _ G ⟨rfl,rfl⟩
  simp only[go_sem,δ,V,t3,t9,t10,c,g,b]
  refine zd (X9 _ (A.length+1) z _ (kD s W ((zD W).take n)) (zC (qI W d) s.dayOver) (by rw[zl (k:=1) rfl];rfl) I.sl (qC _) (by unfold kD;omega) (by omega)) ?_
  rintro _ G ⟨rfl,rfl⟩
  rw[<-e2]
  have ne:h.length+1≠h.length+2:=by omega
  simp only[go_sem,t3,t9,t10,c,g,b,List.getElem?_set_ne,ne,ne_eq,not_false_eq_true]
  exact ⟨k.put (zg rfl (zj rfl)) (.inl rfl) (.inl rfl),k.raws,(KeepB.app.trans (.setL (by omega))).trans (.setL (by omega))⟩
 ·rintro e ds E A ⟨rfl,rfl,D,id,rfl,hid,L,k⟩
  rw[List.length_append] at hid
  rw[List.length_map,List.take_length] at k
  obtain ⟨y,J,R⟩:=k.reg
  obtain ⟨z,H,I⟩:=k.ovr
  have N:=k.pre
  have b:=k.set_
  have i:=kC (jU W).1
  have F:=kE W s.dayReg _ i
  have C:=kE W s.dayOver _ i
  have hwr:=ht.weekReg
  have hl1:(vt s W (zD W)).length<=W.length+(zD W).length:=F
  have ψ:(kD s W (zD W)).length<=W.length+(zD W).length:=C
  refine ⟨rfl,(jq (by decide) ?_:Zt _ _ _ _ _ _ _ _)⟩
  simp only[go_sem,J,H,b]
  refine zd (V2 _ y (vt s W (zD W)) s.weekReg R.sl (by omega) (by unfold Fit;omega)) ?_
  rintro _ G ⟨rfl,rfl⟩
  simp only[go_sem]
  obtain ⟨t,S⟩:∃t,t=zC (vt s W (zD W)) s.weekReg:=⟨_,rfl⟩
  have htl:t.length<=(zt (vt s W (zD W))).length:=by rw[S];exact jd _ _
  have htn:=zq (vt s W (zD W))
  rw[<-S]
  refine qOa (Vc (by decide) ?_)
  simp only[go_sem]
  refine zp rfl [] 0 [(0,0,[]),(2,0,[]),(4,0,[]),(1,0,[]),(5,0,[]),(3,0,[5]),(6,0,[]),(7,0,[]),(8,0,[]),(9,0,[])] rfl (by decide) (by decide) ?_
  simp only[go_sem,J,H]
  refine zd (ZW _ z _ (kD s W (zD W)) t I.sl (qC _) (by omega) (by omega)) ?_
  rintro _ G ⟨rfl,rfl⟩
  simp only[go_sem,H]
  refine zd (ZW _ _ z W (kD s W (zD W)) (qC _) I.sl (by omega) (by omega)) ?_
  rintro _ G ⟨rfl,rfl⟩
  simp only[go_sem,J,H]
  exact k4a (.inr ⟨D,id,rfl,by omega,L⟩) N (r:= .tup [spv t,spv (zV (kD s W (zD W)) t),spv (zV W (kD s W (zD W)))]) (λ_=>rfl) (wUa _ _ _) rfl
end Go.Proofs.YtigdlmpjijhpaaaGreat.Ax
namespace Go.Proofs.YtigdlmpjijhpaaaGreat.Ax
open Go Go.Proofs Go.Shelf Go.RowKit Go.Lib Go.Sort
def wu {α:Type} (enc:α->List Value) (l:List α):List Value:=(l.map enc).flatten
theorem Q7 {α:Type} (enc:α->List Value) (K:Nat) (a:∀x,(enc x).length=K):∀l:List α,(wu enc l).length=l.length*K
 | []=>by simp[wu]
 | x::l=>by
   have:=Q7 enc K a l
   simp only[wu,List.map_cons,List.flatten_cons,List.length_append,List.length_cons,a] at this⊢
   rw[this,Nat.succ_mul];omega
theorem z1a {α:Type} (enc:α->List Value):∀l:List α,(l.map λx=>(enc x).map AV.v).flatten=(wu enc l).map .v
 | []=>rfl
 | x::l=>by
   have:=z1a enc l
   simp only[wu,List.map_cons,List.flatten_cons,List.map_append] at this⊢
   rw[this]
section
variable {α:Type} [Inhabited α] (enc:α->List Value) (K:Nat)
theorem Kd (e:0<K) (a:∀x,(enc x).length=K):∀(l:List α) (t:Nat),t<l.length*K->(wu enc l)[t]? =some ((enc l.toArray[t / K]!)[t % K]!)
 | [],t,h=>by simp at h
 | x::l,t,h=>by
   by_cases b:t<K
   ·have c:(wu enc (x::l))[t]? =(enc x)[t]? :=by
     simp only[wu,List.map_cons,List.flatten_cons]
     rw[List.getElem?_append_left (by rw[a];exact b)]
    have f:t<(enc x).length:=by rw[a];exact b
    rw[c,Nat.div_eq_of_lt b,Nat.mod_eq_of_lt b,List.getElem?_eq_getElem f]
    simp[getElem!_pos (enc x) t f]
   ·have c:(wu enc (x::l))[t]? =(wu enc l)[t - K]? :=by
     simp only[wu,List.map_cons,List.flatten_cons]
     rw[List.getElem?_append_right (by rw[a];omega),a]
    have d:t - K<l.length*K:=by rw[List.length_cons,Nat.succ_mul] at h;omega
    rw[c,Kd e a l _ d]
    have g:t / K=(t - K) / K+1:=by rw[Nat.div_eq_sub_div e (by omega)]
    have i:t % K=(t - K) % K:=Nat.mod_eq_sub_mod (by omega)
    rw[g,i]
    simp
theorem Yv (c:0<K) (a:∀x,(enc x).length=K) (l:List α):(flatK enc K l.toArray).toList=wu enc l:=by
 apply List.ext_getElem?
 intro t
 by_cases b:t<l.length*K
 ·rw[Kd enc K c a l t b]
  simp[flatK,b]
 ·rw[List.getElem?_eq_none (by simp;omega),List.getElem?_eq_none (by rw[Q7 enc K a];omega)]
theorem ZJa {P:Program} {f Z:FuncId} {ty:TypeId} (hK:0<K) (m:∀x,(enc x).length=K) (lt:α->α->Bool) (H:Xc P f=true)
  (hex:∀l:List α,∃l':List α,l'.Perm l/\l'.Pairwise λa b=>lt b a=false)
  (hc:∀(blk off cap:Nat) (d:Array α) (w:World),HoldsK enc K w blk off d->blk<w.heap.size->d.size<4611686018427387904->Calls P f #[.slice (some ⟨blk,off,none⟩) d.size cap,.func (.func Z) #[] #[]] w λe w'=>e= .returned (.tuple #[])/\∃c n os,PermIn 0 d.size d c/\SortedIn lt 0 d.size c/\w'=sortWorldK enc K w blk off n c os)
  (O:∀(A:Option Addr) (cap:Nat) (w:World),Calls P f #[.slice A 0 cap,.func (.func Z) #[] #[]] w λe w'=>e= .returned (.tuple #[])/\w'=w)
  (h:List Ob) (id st:Nat) (l:List α) (L:h[id]? =some (.row ty K (l.map λx=>(enc x).map .v) st)) (hl:l.length<1099511627776):
  ACalls P f [.tl id st,.fn (.func Z) [] []] h λr h'=>r= .tup []/\∃l':List α,l'.Perm l/\(l'.Pairwise λa b=>lt b a=false)/\h'=h.set id (.row ty K (l'.map λx=>(enc x).map .v) st):=by
 refine ⟨H,?_,?_⟩
 ·obtain ⟨l',q1,N⟩:=hex l
  exact ⟨_,_,⟨rfl,l',q1,N,rfl⟩,zK L rfl⟩
 ·intro φ hu B w g vs X hB z
  have E:(fill φ h)[id]? =some (.row ty K (l.map λx=>(enc x).map .v) st):=zM L rfl
  obtain ⟨v1,r1,rfl,⟨_,Q,F⟩,v2,r2,rfl,⟨us,vs,rfl,s,p⟩,W⟩:=z
  have W:r2=[]:=W
  subst W
  have s:us.toList=[]:=s
  have p:vs.toList=[]:=p
  have s:us= #[]:=by simpa using s
  have p:vs= #[]:=by simpa using p
  subst s;subst p
  have e0:v1=g.cur id:=(F st (by simp[ctx,E,Ob.tok])).2 rfl
  obtain ⟨q0,q1,cells,N,q3⟩:=X.ok id _ E
  rw[z1a] at q3
  have e1:=XN q3
  subst e1
  by_cases G:l=[]
  ·subst G
   have S:∃A k,g.cur id= .slice A 0 k:=by
    rcases N.2 with ⟨o,_⟩ | ⟨D,cap,cur,o,_⟩
    ·exact ⟨_,_,o⟩
    ·exact ⟨_,_,o⟩
   obtain ⟨A,k,S⟩:=S
   rw[e0,S]
   refine (O A k w).mono ?_
   rintro e w' ⟨rfl,rfl⟩
   exact ⟨_,_,_,_,rfl,⟨rfl,[],.refl _,.nil,(zZ L).symm⟩,.refl,Good.refl X hB, #[],rfl,rfl⟩
  rcases N.2 with ⟨_,o⟩ | ⟨D,cap,cur,o,e4,M,Y,e7,e8,e9⟩
  ·exfalso
   simp at o
   exact G o
  ·have o:g.cur id=_:=o
   simp only[List.length_map] at o Y e9
   have U:l.length*K<=cur.size:=by rw[e8];exact Nat.mul_le_mul_right _ Y
   have R:∀j,j<l.length*K->cur[j]? =some ((enc l.toArray[j / K]!)[j % K]!):=λj u=>by
    rw[<-Kd enc K hK m l j u, <-e9,List.getElem?_take,if_pos u,Array.getElem?_toList]
   have hH:HoldsK enc K w D 0 l.toArray:=λj u=>by
    have u:j<l.length*K:=by simpa using u
    refine ⟨?_,?_⟩
    ·simp only[World.cell?,M,Nat.zero_add]
     rw[get_flatK _ _ _ _ (by simpa using u)]
     exact R j u
    ·simp[World.frozen?,M]
   have q:=hc D 0 cap l.toArray w hH (Array.getElem?_eq_some_iff.1 M).1 (by simp;omega)
   rw[e0,o]
   have T:l.toArray.size=l.length:=by simp
   rw[T] at q
   refine q.mono ?_
   rintro e w' ⟨rfl,c,n,os,hp,hs,rfl⟩
   obtain ⟨p1,p2,p3⟩:=hp
   have J:c.size=l.length:=by rw[p1];simp
   have y:c.toList.Perm l:=by
    have a1:c.extract 0 l.length=c:=by rw[<-J];simp
    have a2:l.toArray.extract 0 l.length=l.toArray:=by simp
    rw[a1,a2] at p3
    exact p3
   have C:c.toList.Pairwise λa b=>lt b a=false:=by
    rw[List.pairwise_iff_getElem]
    intro i j hi u V
    simp only[Array.length_toList] at hi u
    have:=hs i j (by omega) V (by omega)
    rw[getElem!_pos c i hi,getElem!_pos c j u] at this
    simpa using this
   have hF:(flatK enc K c).toList=wu enc c.toList:=Yv enc K hK m c.toList
   have I:(flatK enc K c).size=l.length*K:=by simp[J]
   have t:=Qc (w':=sortWorldK enc K w D 0 n c os) (v':=g.cur id) (st':=st) (xs':=c.toList.map λx=>(enc x).map .v) (cells:=wu enc c.toList) X hB E (by simp[m]) (by rw[o];exact K8 w D n _ os)
    ⟨by rw[Q7 enc K m];simp,.inr ⟨D,cap,_,by simp[o,J],e4,Ya w D n _ os M,by simp[J];exact Y,e7,by simp[putCells];exact e8,by
     have:=Yb (flatK enc K c) cur (by rw[I];exact U)
     rw[hF,I] at this
     simpa [J] using this⟩⟩ (by rw[z1a];exact Qa _) (.inl ⟨rfl,rfl⟩) (λb hb=> .inl hb)
   rw[<-q9 rfl] at t
   exact ⟨_,_,_,_,rfl,⟨rfl,c.toList,y,C,rfl⟩,zK L rfl,t, #[],rfl,rfl⟩
end
end Go.Proofs.YtigdlmpjijhpaaaGreat.Ax
