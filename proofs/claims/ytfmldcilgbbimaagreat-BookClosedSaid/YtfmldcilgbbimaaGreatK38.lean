/-
  Joined.
-/
import Derived.Test.YtfmldcilgbbimaaGreatK36
import Derived.Test.YtfmldcilgbbimaaGreatK22
import Derived.Test.YtfmldcilgbbimaaGreatK37
set_option linter.unusedSimpArgs false
set_option linter.unusedVariables false
namespace Go.Proofs.YtfmldcilgbbimaaGreat.Ax
open Go Go.Proofs
set_option maxRecDepth 100000
theorem x1a (s:Setup) (l:List Seg) (d:Int):(qM s l d).length<=3*(qY (zV l) d).length+4*(qY (j8 l 3) d).length+5:=by
 have a:=jd (qY (zV l) d) (jw s l d)
 have b:=JB s (qY (zV l) d) (qY (j8 l 3) d)
 have c:=zy (qY (zV l) d)
 have e:=zy (jw s l d)
 unfold qM
 unfold jw at*
 omega
theorem jfa (s:Setup) (l:List Seg):(vc s l).length<=7*l.length+4452:=by
 have h0:=zy ((zQ (zV l)).flatMap (qM s l))
 have d:=Wq (x1a s l) (zQ (zV l))
 have a:=Qp (zV l) _ (vB (xz (zV l)).1)
 have h:=Qp (j8 l 3) _ (vB (xz (zV l)).1)
 have c:=vV (zV l)
 have g:=zy (zV l)
 have f:=zy (j8 l 3)
 have b:=wz l
 have e:=Xm l 3
 unfold vc
 omega
theorem jga (s:Setup) (l:List Seg):(xV s l).length<=6*l.length+4452:=by
 have h0:=zy ((zQ (zV l)).flatMap (jw s l))
 have f:=Wq (λd=>JB s (qY (zV l) d) (qY (j8 l 3) d)) (zQ (zV l))
 have a:=Qp (zV l) _ (vB (xz (zV l)).1)
 have j:=Qp (j8 l 3) _ (vB (xz (zV l)).1)
 have c:=vV (zV l)
 have i:=zy (zV l)
 have h:=zy (j8 l 3)
 have b:=wz l
 have g:=Xm l 3
 unfold xV
 have e:(zQ (zV l)).flatMap (jw s l)=(zQ (zV l)).flatMap λd=>kF s (qY (zV l) d) (qY (j8 l 3) d):=rfl
 rw[e] at h0⊢
 omega
def X4 (v:List Spn) (d:Int):AV:=spv (qY v d)
theorem JIa (j:Nat) (v:List Spn) (y:v.length<1048576):KCa Tryz.prog 222 [.ptr j 0] (λh=>h[j]? =some (.box 55 [spv v])) ((zQ v).map (X4 v)):=by
 intro l K x f D c a A C
 have hex:∃(r:AV) (h':List Ob),K ((zQ v).map (X4 v)).length h'/\ResK x h':=by
  obtain ⟨h',q⟩:=a
  exact ⟨.tup [],h',q⟩
 have G:=c 0 x f
 have s:=vV v
 refine zf Tryz.f222 [] 19 rfl rfl rfl rfl rfl rfl (by decide) (hex) λB=>?_
 simp only[go_sem,G,List.length_map]
 refine zc (Zra _ _ v (qP _) y) ?_
 rintro _ M ⟨rfl,rfl⟩
 rw[List.length_map] at a
 obtain ⟨W,F⟩:∃W,W=zQ v:=⟨_,rfl⟩
 rw[<-F] at s a C⊢
 simp only[go_sem,List.length_map]
 refine zj (by decide) (λm T h'=>∃(i:Nat),i<=W.length/\K i h'/\T 0= .v (.func (.yield l) #[] #[])/\T 1= .ptr j 0/\T 6= .sl 1 (W.map zz)/\T 7=i64 W.length/\T 8=i64 i/\m=W.length - i) W.length
  ⟨0,by omega,f,by simp only[go_sem],by simp only[go_sem],by simp only[go_sem],by (simp only[go_sem]<;>rfl),by (simp only[go_sem]<;>rfl),rfl⟩ ?_
 rintro m T h' ⟨i,N,k,t0,t1,t6,w,t8,rfl⟩
 simp only[go_sem,w,t8]
 refine ways (λe=>?_) (λe=>?_)
 ·have d:=dlt e
  have b:=QU d
  have t:(i:Int)<W.length:=by omega
  have u:=c i h' k
  have o:(W.map (X4 v))[i]? =some (X4 v W[i]):=by rw[List.getElem?_map,List.getElem?_eq_getElem d];rfl
  have g:=C i _ h' o k
  obtain ⟨z,H⟩:∃z,z=W[i]:=⟨_,rfl⟩
  rw[<-H] at b g
  simp only[go_sem,t0,t1,t6,t8,b,u,t,List.length_map,Int.toNat_natCast,Int.natCast_nonneg]
  refine zc (xUa _ _ v z (qP _) y) ?_
  rintro _ L ⟨rfl,rfl⟩
  simp only[go_sem]
  refine ZY g ?_
  rintro J ⟨n,E⟩
  simp only[go_sem,t8]
  exact ⟨W.length - (i+1),by omega,i+1,by omega,n,t0,t1,t6,w,zx (by omega) rfl,rfl⟩
 ·have I:=qU e
  have p:i=W.length:=by omega
  subst p
  simp only[go_sem]
  exact ⟨_,rfl,.inl k⟩
theorem wBa (h:List Ob) (v:List Spn):ACalls Tryz.prog 167 [spv v] h λr h'=>r= .fn (.func 222) [] [.ptr h.length 0]/\h'=h++[.box 55 [spv v]]:=by
 refine zf Tryz.f167 [.tmp 2] 4 rfl rfl rfl rfl rfl rfl (by decide) (⟨_,_,⟨rfl,rfl⟩,zR⟩) λB=>?_
 simp only[go_sem]
 exact ⟨_,rfl,.inl ⟨rfl,rfl⟩⟩
theorem ZOa (h:List Ob) (j:Nat) (v:List Spn) (n:Int) (b:h[j]? =some (.box 55 [spv v])) (c:v.length<1048576) (a:Fit n):
  ACalls Tryz.prog 168 [i64 n,.ptr j 0] h λr h'=>r=spv (zP v n)/\h'=h:=by
 refine zf Tryz.f168 [.tmp 3] 7 rfl rfl rfl rfl rfl rfl (by decide) (⟨_,_,⟨rfl,rfl⟩,.refl⟩) λB=>?_
 simp only[go_sem,b]
 refine zc (zGa _ _ v n (qP _) c a) ?_
 rintro _ d ⟨rfl,rfl⟩
 simp only[go_sem]
 exact ⟨_,by simp only[go_sem],.inl ⟨rfl,rfl⟩⟩
def Sv (y:AV) (R:List Spn):Prop:=y=spv R∨y= .v (.slice none 0 0)/\R=[]
theorem Sv.sl {h:List Ob} {y:AV} {R:List Spn} (k:Sv y R):SlOf h y 2 (R.map zH):=by
 rcases k with rfl | ⟨rfl,rfl⟩
 ·exact qP _
 ·exact ⟨rfl,λh=>absurd rfl h⟩
def yb (s:Setup) (W:List Spn) (l:List Int):List Spn:=l.flatMap λd=>zP (qY W d) s.dayReg
def yA (s:Setup) (W:List Spn) (l:List Int):List Spn:=l.flatMap λd=>zP (qY W d) s.dayOver
def Qq (s:Setup) (p:List Spn) (w:Int):List Spn × List Spn × List Spn:=
 let W:=qo p w
 let t:=zP (yb s W (zQ W)) s.weekReg
 (t,qx (yA s W (zQ W)) t,qx W (yA s W (zQ W)))
theorem vC (W:List Spn) (n:Int) (L:List Int) (h:L.Nodup):(L.flatMap λd=>zP (qY W d) n).length<=W.length+L.length:=by
 have c:=vaa (f:=λd=>zP (qY W d) n) (g:=qY W) (a:=1) (b:=0) (λd=>by
  have c:(zP (qY W d) n).length<=(zE (qY W d)).length:=jt _ _
  have e:=zy (qY W d)
  omega) L
 have e:=Qp W L h
 have i:=zy W
 omega
theorem ZPa {s:Setup} {W:List Spn} {l:List Int} {n:Nat} (h:n<l.length):yb s W (l.take (n+1))=yb s W (l.take n)++zP (qY W l[n]) s.dayReg:=QW h
theorem ZQa {s:Setup} {W:List Spn} {l:List Int} {n:Nat} (h:n<l.length):yA s W (l.take (n+1))=yA s W (l.take n)++zP (qY W l[n]) s.dayOver:=QW h
structure KOv (h:List Ob) (s:Setup) (a:SA) (W:List Spn) (l:List Int) (h':List Ob):Prop where
 pre:Pre h h'
 set_:h'[h.length]? =some (.box 30 (zr s a))
 reg:∃y,h'[h.length+1]? =some (.box 55 [y])/\Sv y (yb s W l)
 ovr:∃y,h'[h.length+2]? =some (.box 55 [y])/\Sv y (yA s W l)
 wk:h'[h.length+3]? =some (.box 55 [spv W])
theorem KOv.app {h:List Ob} {s:Setup} {a:SA} {W:List Spn} {l:List Int} {h':List Ob} (k:KOv h s a W l h') {M:List Ob} (b:NoRes M):KOv h s a W l (h'++M):=
 ⟨k.pre.app b,zb k.set_,let ⟨y,q1,q2⟩:=k.reg;⟨y,zb q1,q2⟩,let ⟨y,q1,q2⟩:=k.ovr;⟨y,zb q1,q2⟩,zb k.wk⟩
theorem KOv.raw {h:List Ob} {s:Setup} {a:SA} {W:List Spn} {b:List Int} {h':List Ob} (k:KOv h s a W b h') {j l o ks us o'} (f:h.length<=j) (d:h'[j]? =some (.raw l o ks us)):KOv h s a W b (h'.set j (.raw l o' ks us)):=by
 have c:∀(z:Nat) t cs,h'[z]? =some (.box t cs)->(h'.set j (.raw l o' ks us))[z]? =some (.box t cs):=λz t cs q=>by
  have:j≠z:=λe=>by rw[e,q] at d;cases d
  rw[List.getElem?_set_ne this];exact q
 exact ⟨k.pre.set f rfl,c _ _ _ k.set_,let ⟨y,q1,q2⟩:=k.reg;⟨y,c _ _ _ q1,q2⟩,let ⟨y,q1,q2⟩:=k.ovr;⟨y,c _ _ _ q1,q2⟩,c _ _ _ k.wk⟩
theorem KOv.put {h:List Ob} {s:Setup} {a:SA} {W:List Spn} {l l':List Int} {h':List Ob} (k:KOv h s a W l h') {M:List Ob} (b:NoRes M) {y z:AV} (f:Sv y (yb s W l')) (d:Sv z (yA s W l')):
  KOv h s a W l' (((h'++M).set (h.length+1) (.box 55 [y])).set (h.length+2) (.box 55 [z])):=by
 obtain ⟨i,c,_⟩:=k.reg
 obtain ⟨z0,e,_⟩:=k.ovr
 have g:=(List.getElem?_eq_some_iff.1 c).1
 have l2:=(List.getElem?_eq_some_iff.1 e).1
 refine ⟨((k.pre.app b).set (by omega) rfl).set (by omega) rfl,?_,⟨y,?_,f⟩,⟨z,?_,d⟩,?_⟩
 ·rw[List.getElem?_set_ne (by omega),List.getElem?_set_ne (by omega)];exact zb k.set_
 ·rw[List.getElem?_set_ne (by omega),List.getElem?_set_self (by rw[List.length_append];omega)]
 ·rw[List.getElem?_set_self (by rw[List.length_set,List.length_append];omega)]
 ·rw[List.getElem?_set_ne (by omega),List.getElem?_set_ne (by omega)];exact zb k.wk
theorem KOv.raws {h:List Ob} {s:Setup} {a:SA} {W:List Spn} {l:List Int} {h':List Ob} (k:KOv h s a W l h') {M:List Ob} {o o':Ob}:RawK h' (((h'++M).set (h.length+1) o).set (h.length+2) o'):=by
 obtain ⟨d,c,_⟩:=k.reg
 obtain ⟨z0,b,_⟩:=k.ovr
 exact (RawK.app.trans (.setB (zb c))).trans (.setB ((List.getElem?_set_ne (by omega)).trans (zb b)))
theorem WCa (h:List Ob) (s:Setup) (a:SA) (k:SIn h s a) (f:SFit s) (O:zw s=true) (x:AV) (p:List Spn) (w:Int) (A:SlOf h x 2 (p.map zH)) (hl:p.length<262144):
  ACalls Tryz.prog 101 [z6 s a,x,i64 w] h λr h'=>r= .tup [spv (Qq s p w).1,spv (Qq s p w).2.1,spv (Qq s p w).2.2]/\h'=h:=by
 have X:=XZ O
 refine KA Tryz.f101 [.tmp 6,.tmp 7,.tmp 8] 49 rfl rfl rfl rfl rfl rfl (⟨_,rfl⟩) λbs=>?_
 refine jK (by decide) ?_
 simp only[go_sem,k.ones]
 refine jK (by decide) ?_
 simp only[go_sem,k.ones]
 refine zc (c16 _ s a (k.app _) f) ?_
 rintro _ h1 ⟨rfl,rfl⟩
 simp only[go_sem,O,zJ,Bool.not_true]
 refine jK (by decide) ?_
 simp only[go_sem]
 refine jK (by decide) ?_
 simp only[go_sem]
 refine zc (k1a _ x p w (A.app _) (by omega)) ?_
 rintro _ h1 ⟨rfl,rfl⟩
 simp only[go_sem]
 have ε:(qo p w).length<=(zE p).length+1:=yQ _ _ _
 have ψ:=zy p
 obtain ⟨W,hW⟩:∃W,W=qo p w:=⟨_,rfl⟩
 have β:Qq s p w=(zP (yb s W (zQ W)) s.weekReg,qx (yA s W (zQ W)) (zP (yb s W (zQ W)) s.weekReg),qx W (yA s W (zQ W))):=by rw[hW];rfl
 rw[β]
 rw[<-hW] at ε⊢
 refine We ?_
 refine jK (by decide) ?_
 simp only[go_sem]
 refine zc (wBa _ W) ?_
 rintro _ h1 ⟨rfl,rfl⟩
 simp only[go_sem]
 have τ:=vV W
 have base:KOv h s a W ((zQ W).take 0) (h++[.box 30 (zr s a),.box 55 [.v (.slice none 0 0)],.box 55 [.v (.slice none 0 0)],.box 55 [spv W]]):=
  ⟨⟨_,rfl,zg rfl (zg rfl (zg rfl (zi rfl)))⟩,by rw[zo rfl];rfl,⟨_,by rw[zm (k:=1) rfl];rfl,.inr ⟨rfl,rfl⟩⟩,⟨_,by rw[zm (k:=2) rfl];rfl,.inr ⟨rfl,rfl⟩⟩,by rw[zm (k:=3) rfl];rfl⟩
 refine k4a (Kz (YH (Wf (p:=22) (by decide) rfl (by simp only[go_sem]) (JIa (h.length+3) W (by omega))
  (λn h'=>KOv h s a W ((zQ W).take n) h')
  (λn x F u=>F 3= .ptr h.length 0/\F 9= .ptr (h.length+1) 0/\F 10= .ptr (h.length+2) 0/\∃d j,(zQ W)[n]? =some d/\F 12= .ptr j 0/\u[j]? =some (.box 55 [spv (qY W d)])/\j≠h.length+1/\j≠h.length+2/\KOv h s a W ((zQ W).take n) u)
  ?_ (λn h' M B k=>k.app B) (λn h' k=>k.wk) ?_ ?_ ?_ ?_ ?_) ?_))
 ·exact λM B=>base.app B
 ·intro M B
  have q:=(base.app B).put (M:=[]) (l':=(zQ W).take ((zQ W).map (X4 W)).length) qh (.inl rfl) (.inl rfl)
  refine ⟨_,q,(base.app B).pre.resK q.pre,(base.app B).raws⟩
 ·intro n h' j l o ks us o' Z k R
  exact k.raw (Nat.le_trans (by rw[List.length_append];exact Nat.le_add_right _ _) Z) R
 ·rintro n x F u j l o ks us o' Z ⟨t3,t9,t10,d,m,U,Y,Q,q4,q5,k⟩ R
  refine ⟨t3,t9,t10,d,m,U,Y,?_,q4,q5,k.raw (Nat.le_trans (by rw[List.length_append];exact Nat.le_add_right _ _) Z) R⟩
  have:j≠m:=λe=>by rw[e,Q] at R;cases R
  rw[List.getElem?_set_ne this];exact Q
 ·intro bb l n x h' A k
  rw[List.getElem?_map] at A
  cases hs:(zQ W)[n]? with
  | none=>rw[hs] at A;cases A
  | some d=>
    rw[hs] at A
    injection A with A
    subst A
    refine Zu (by decide) (by decide) ?_
    have φ:=(List.getElem?_eq_some_iff.1 k.wk).1
    simp only[go_sem,Zua,X4]
    exact ⟨⟨d,h'.length,rfl,rfl,by rw[zo rfl];rfl,by omega,by omega,k.app (zi rfl)⟩,.app,.app⟩
 ·rintro bb l n x F u A ⟨t3,t9,t10,d,m,U,Y,Q,q4,q5,k⟩
  obtain ⟨y,N,J⟩:=k.reg
  obtain ⟨z,G,H⟩:=k.ovr
  refine YG (Jsa (Zu (by decide) (by decide) ?_))
  simp only[go_sem,Y]
  refine Zsa rfl [.res,.res] 2 [(1,0,[]),(2,0,[]),(8,0,[]),(9,0,[]),(0,0,[]),(3,0,[]),(7,0,[]),(10,0,[]),(4,0,[0,7,10]),(5,0,[]),(6,0,[7,10]),(11,0,[7]),(12,1,[]),(13,0,[]),(14,0,[]),(15,0,[])] rfl (by decide) (by decide) (by decide) (λ_ _ q=>by cases q.1) ?_
  have i:∀M,(u++M)[h.length+1]? =some (.box 55 [y]):=λM=>zb N
  have c:∀M,(u++M)[h.length+2]? =some (.box 55 [z]):=λM=>zb G
  have b:∀M,(u++M)[h.length]? =some (.box 30 (zr s a)):=λM=>zb k.set_
  have T:=(J.sl (h:=h)).cells
  have δ:=(J.sl (h:=h)).one
  have V:=(H.sl (h:=h)).cells
  have α:=(H.sl (h:=h)).one
  have g:=vB ((xz W).1.sublist (List.take_sublist n _))
  have C:=vC W s.dayReg _ g
  have E:=vC W s.dayOver _ g
  rw[List.length_take] at C E
  have hdl:=yT W d
  have υ:(zP (qY W d) s.dayReg).length<=(zE (qY W d)).length:=jt _ _
  have ξ:(zP (qY W d) s.dayOver).length<=(zE (qY W d)).length:=jt _ _
  have ρ:=zy (qY W d)
  have hdr:=X.dayReg
  have χ:=X.dayOver
  obtain ⟨P,γ⟩:=List.getElem?_eq_some_iff.1 U
  have e1:=ZPa (s:=s) (W:=W) P
  have e2:=ZQa (s:=s) (W:=W) P
  rw[γ] at e1 e2
  simp only[go_sem,t3,t9,t10,i,c,b]
  refine zc (ZOa _ m (qY W d) s.dayReg (zb Q) (by omega) (by unfold Fit;omega)) ?_
  rintro _ I ⟨rfl,rfl⟩
  simp only[go_sem,δ,T,t3,t9,t10,i,c,b]
  refine zc (Wn _ u.length y _ (yb s W ((zQ W).take n)) (zP (qY W d) s.dayReg) (by rw[zo rfl];rfl) J.sl (qP _) (by unfold yb;omega) (by omega)) ?_
  rintro _ I ⟨rfl,rfl⟩
  rw[<-e1]
  simp only[go_sem,t3,t9,t10,i,c,b]
  refine zc (ZOa _ m (qY W d) s.dayOver (zb Q) (by omega) (by unfold Fit;omega)) ?_
  rintro _ I ⟨rfl,rfl⟩
  simp only[go_sem,α,V,t3,t9,t10,i,c,b]
  refine zc (Wn _ (u.length+1) z _ (yA s W ((zQ W).take n)) (zP (qY W d) s.dayOver) (by rw[zm (k:=1) rfl];rfl) H.sl (qP _) (by unfold yA;omega) (by omega)) ?_
  rintro _ I ⟨rfl,rfl⟩
  rw[<-e2]
  have ne:h.length+1≠h.length+2:=by omega
  simp only[go_sem,t3,t9,t10,i,c,b,List.getElem?_set_ne,ne,ne_eq,not_false_eq_true]
  exact ⟨k.put (zg rfl (zi rfl)) (.inl rfl) (.inl rfl),k.raws,(KeepB.app.trans (.setL (by omega))).trans (.setL (by omega))⟩
 ·rintro e ds F u ⟨rfl,rfl,D,id,rfl,hid,S,k⟩
  rw[List.length_append] at hid
  rw[List.length_map,List.take_length] at k
  obtain ⟨y,N,J⟩:=k.reg
  obtain ⟨z,G,H⟩:=k.ovr
  have K:=k.pre
  have b:=k.set_
  have g:=vB (xz W).1
  have C:=vC W s.dayReg _ g
  have E:=vC W s.dayOver _ g
  have hwr:=X.weekReg
  have σ:(yb s W (zQ W)).length<=W.length+(zQ W).length:=C
  have hl2:(yA s W (zQ W)).length<=W.length+(zQ W).length:=E
  refine ⟨rfl,(jK (by decide) ?_:Q5 _ _ _ _ _ _ _ _)⟩
  simp only[go_sem,N,G,b]
  refine zc (zGa _ y (yb s W (zQ W)) s.weekReg J.sl (by omega) (by unfold Fit;omega)) ?_
  rintro _ I ⟨rfl,rfl⟩
  simp only[go_sem]
  obtain ⟨t,L⟩:∃t,t=zP (yb s W (zQ W)) s.weekReg:=⟨_,rfl⟩
  have htl:t.length<=(zE (yb s W (zQ W))).length:=by rw[L];exact jt _ _
  have ο:=zy (yb s W (zQ W))
  rw[<-L]
  refine k4a (YI (by decide) ?_)
  simp only[go_sem]
  refine zn rfl [] 0 [(0,0,[]),(2,0,[]),(4,0,[]),(1,0,[]),(5,0,[]),(3,0,[5]),(6,0,[]),(7,0,[]),(8,0,[]),(9,0,[])] rfl (by decide) (by decide) ?_
  simp only[go_sem,N,G]
  refine zc (Jz _ z _ (yA s W (zQ W)) t H.sl (qP _) (by omega) (by omega)) ?_
  rintro _ I ⟨rfl,rfl⟩
  simp only[go_sem,G]
  refine zc (Jz _ _ z W (yA s W (zQ W)) (qP _) H.sl (by omega) (by omega)) ?_
  rintro _ I ⟨rfl,rfl⟩
  simp only[go_sem,N,G]
  exact Zza (.inr ⟨D,id,rfl,by omega,S⟩) K (r:= .tup [spv t,spv (qx (yA s W (zQ W)) t),spv (qx W (yA s W (zQ W)))]) (λ_=>rfl) (JHa _ _ _) rfl
end Go.Proofs.YtfmldcilgbbimaaGreat.Ax
namespace Go.Proofs.YtfmldcilgbbimaaGreat.Ax
open Go Go.Proofs Go.Shelf Go.RowKit Go.Lib Go.Sort
def wq {α:Type} (enc:α->List Value) (l:List α):List Value:=(l.map enc).flatten
theorem QX {α:Type} (enc:α->List Value) (K:Nat) (a:∀x,(enc x).length=K):∀l:List α,(wq enc l).length=l.length*K
 | []=>by simp[wq]
 | x::l=>by
   have:=QX enc K a l
   simp only[wq,List.map_cons,List.flatten_cons,List.length_append,List.length_cons,a] at this⊢
   rw[this,Nat.succ_mul];omega
theorem Wr {α:Type} (enc:α->List Value):∀l:List α,(l.map λx=>(enc x).map AV.v).flatten=(wq enc l).map .v
 | []=>rfl
 | x::l=>by
   have:=Wr enc l
   simp only[wq,List.map_cons,List.flatten_cons,List.map_append] at this⊢
   rw[this]
section
variable {α:Type} [Inhabited α] (enc:α->List Value) (K:Nat)
theorem Xn (e:0<K) (a:∀x,(enc x).length=K):∀(l:List α) (t:Nat),t<l.length*K->(wq enc l)[t]? =some ((enc l.toArray[t / K]!)[t % K]!)
 | [],t,h=>by simp at h
 | x::l,t,h=>by
   by_cases b:t<K
   ·have d:(wq enc (x::l))[t]? =(enc x)[t]? :=by
     simp only[wq,List.map_cons,List.flatten_cons]
     rw[List.getElem?_append_left (by rw[a];exact b)]
    have f:t<(enc x).length:=by rw[a];exact b
    rw[d,Nat.div_eq_of_lt b,Nat.mod_eq_of_lt b,List.getElem?_eq_getElem f]
    simp[getElem!_pos (enc x) t f]
   ·have d:(wq enc (x::l))[t]? =(wq enc l)[t - K]? :=by
     simp only[wq,List.map_cons,List.flatten_cons]
     rw[List.getElem?_append_right (by rw[a];omega),a]
    have c:t - K<l.length*K:=by rw[List.length_cons,Nat.succ_mul] at h;omega
    rw[d,Xn e a l _ c]
    have i:t / K=(t - K) / K+1:=by rw[Nat.div_eq_sub_div e (by omega)]
    have g:t % K=(t - K) % K:=Nat.mod_eq_sub_mod (by omega)
    rw[i,g]
    simp
theorem KG (c:0<K) (a:∀x,(enc x).length=K) (l:List α):(flatK enc K l.toArray).toList=wq enc l:=by
 apply List.ext_getElem?
 intro t
 by_cases b:t<l.length*K
 ·rw[Xn enc K c a l t b]
  simp[flatK,b]
 ·rw[List.getElem?_eq_none (by simp;omega),List.getElem?_eq_none (by rw[QX enc K a];omega)]
theorem ZRa {P:Program} {f S:FuncId} {ty:TypeId} (hK:0<K) (m:∀x,(enc x).length=K) (lt:α->α->Bool) (H:Vm P f=true)
  (hex:∀l:List α,∃l':List α,l'.Perm l/\l'.Pairwise λa b=>lt b a=false)
  (hc:∀(blk off cap:Nat) (d:Array α) (w:World),HoldsK enc K w blk off d->blk<w.heap.size->d.size<4611686018427387904->Calls P f #[.slice (some ⟨blk,off,none⟩) d.size cap,.func (.func S) #[] #[]] w λe w'=>e= .returned (.tuple #[])/\∃c n os,PermIn 0 d.size d c/\SortedIn lt 0 d.size c/\w'=sortWorldK enc K w blk off n c os)
  (W:∀(A:Option Addr) (cap:Nat) (w:World),Calls P f #[.slice A 0 cap,.func (.func S) #[] #[]] w λe w'=>e= .returned (.tuple #[])/\w'=w)
  (h:List Ob) (id st:Nat) (l:List α) (L:h[id]? =some (.row ty K (l.map λx=>(enc x).map .v) st)) (hl:l.length<1099511627776):
  ACalls P f [.tl id st,.fn (.func S) [] []] h λr h'=>r= .tup []/\∃l':List α,l'.Perm l/\(l'.Pairwise λa b=>lt b a=false)/\h'=h.set id (.row ty K (l'.map λx=>(enc x).map .v) st):=by
 refine ⟨H,?_,?_⟩
 ·obtain ⟨l',q1,M⟩:=hex l
  exact ⟨_,_,⟨rfl,l',q1,M,rfl⟩,zC L rfl⟩
 ·intro φ hu B w g vs Z hB z
  have D:(fill φ h)[id]? =some (.row ty K (l.map λx=>(enc x).map .v) st):=zN L rfl
  obtain ⟨v1,r1,rfl,⟨_,V,F⟩,v2,r2,rfl,⟨us,vs,rfl,s,p⟩,X⟩:=z
  have X:r2=[]:=X
  subst X
  have s:us.toList=[]:=s
  have p:vs.toList=[]:=p
  have s:us= #[]:=by simpa using s
  have p:vs= #[]:=by simpa using p
  subst s;subst p
  have e0:v1=g.cur id:=(F st (by simp[ctx,D,Ob.tok])).2 rfl
  obtain ⟨q0,q1,cells,M,q3⟩:=Z.ok id _ D
  rw[Wr] at q3
  have e1:=Xi q3
  subst e1
  by_cases I:l=[]
  ·subst I
   have T:∃A k,g.cur id= .slice A 0 k:=by
    rcases M.2 with ⟨o,_⟩ | ⟨E,cap,cur,o,_⟩
    ·exact ⟨_,_,o⟩
    ·exact ⟨_,_,o⟩
   obtain ⟨A,k,T⟩:=T
   rw[e0,T]
   refine (W A k w).mono ?_
   rintro e w' ⟨rfl,rfl⟩
   exact ⟨_,_,_,_,rfl,⟨rfl,[],.refl _,.nil,(zT L).symm⟩,.refl,Good.refl Z hB, #[],rfl,rfl⟩
  rcases M.2 with ⟨_,o⟩ | ⟨E,cap,cur,o,e4,N,Q,e7,e8,e9⟩
  ·exfalso
   simp at o
   exact I o
  ·have o:g.cur id=_:=o
   simp only[List.length_map] at o Q e9
   have Y:l.length*K<=cur.size:=by rw[e8];exact Nat.mul_le_mul_right _ Q
   have U:∀j,j<l.length*K->cur[j]? =some ((enc l.toArray[j / K]!)[j % K]!):=λj u=>by
    rw[<-Xn enc K hK m l j u, <-e9,List.getElem?_take,if_pos u,Array.getElem?_toList]
   have hH:HoldsK enc K w E 0 l.toArray:=λj u=>by
    have u:j<l.length*K:=by simpa using u
    refine ⟨?_,?_⟩
    ·simp only[World.cell?,N,Nat.zero_add]
     rw[get_flatK _ _ _ _ (by simpa using u)]
     exact U j u
    ·simp[World.frozen?,N]
   have t:=hc E 0 cap l.toArray w hH (Array.getElem?_eq_some_iff.1 N).1 (by simp;omega)
   rw[e0,o]
   have R:l.toArray.size=l.length:=by simp
   rw[R] at t
   refine t.mono ?_
   rintro e w' ⟨rfl,c,n,os,hp,hs,rfl⟩
   obtain ⟨p1,p2,p3⟩:=hp
   have J:c.size=l.length:=by rw[p1];simp
   have C:c.toList.Perm l:=by
    have a1:c.extract 0 l.length=c:=by rw[<-J];simp
    have a2:l.toArray.extract 0 l.length=l.toArray:=by simp
    rw[a1,a2] at p3
    exact p3
   have y:c.toList.Pairwise λa b=>lt b a=false:=by
    rw[List.pairwise_iff_getElem]
    intro i j hi u O
    simp only[Array.length_toList] at hi u
    have:=hs i j (by omega) O (by omega)
    rw[getElem!_pos c i hi,getElem!_pos c j u] at this
    simpa using this
   have hF:(flatK enc K c).toList=wq enc c.toList:=KG enc K hK m c.toList
   have G:(flatK enc K c).size=l.length*K:=by simp[J]
   have q:=yC (w':=sortWorldK enc K w E 0 n c os) (v':=g.cur id) (st':=st) (xs':=c.toList.map λx=>(enc x).map .v) (cells:=wq enc c.toList) Z hB D (by simp[m]) (by rw[o];exact XU w E n _ os)
    ⟨by rw[QX enc K m];simp,.inr ⟨E,cap,_,by simp[o,J],e4,V2 w E n _ os N,by simp[J];exact Q,e7,by simp[putCells];exact e8,by
     have:=V3 (flatK enc K c) cur (by rw[G];exact Y)
     rw[hF,G] at this
     simpa [J] using this⟩⟩ (by rw[Wr];exact ZT _) (.inl ⟨rfl,rfl⟩) (λb hb=> .inl hb)
   rw[<-qn rfl] at q
   exact ⟨_,_,_,_,rfl,⟨rfl,c.toList,C,y,rfl⟩,zC L rfl,q, #[],rfl,rfl⟩
end
set_option maxRecDepth 100000
structure Pt where
 from_:Int
 to_:Int
 kind:Int
instance:Inhabited Pt:=⟨⟨0,0,0⟩⟩
def vba (x:Pt):List Value:=[.int .i64 x.from_,.int .i64 x.to_,.int .i64 x.kind]
def ptC (x:Pt):List AV:=[i64 x.from_,i64 x.to_,i64 x.kind]
theorem XTa {n:Nat}:∀l:List Pt,zU n (l.map ptC)=true
 | []=>rfl
 | s::l=>by
   rw[List.map_cons,zU,XTa l];rfl
set_option maxHeartbeats 1000000 in
theorem wCa (x y:Pt) (W:World):Calls Tryz.prog 107 #[.agg #[.int .i64 x.from_,.int .i64 x.to_,.int .i64 x.kind],.agg #[.int .i64 y.from_,.int .i64 y.to_,.int .i64 y.kind]] W λe w'=>e= .returned (.int .i64 (Lib.compareInt x.from_ y.from_))/\∃q b,w'=grow (W.drewN q) b:=by
 have a:=λc=>AnyG.cmp_Compare_int xOa x.from_ y.from_ c
 change ∀c,Calls Tryz.prog 108 _ _ _ at a
 generalize Lib.compareInt x.from_ y.from_=r at a⊢
 go_enter Tryz.func107,Tryz.ntmps107
 go_wp2_with (go_at_call 108;refine (a _).mono ?_;rintro e w' ⟨rfl,rfl⟩)
 go_ret
 exact ⟨rfl,0,_,by rw[alloc_eq_grow,alloc_eq_grow,grow_grow];rfl⟩
theorem wDa (blk off size:Nat) (w:World):CmpLays Tryz.prog 107 #[] vba 3 (λx y=>Lib.compareInt x.from_ y.from_) blk off size w:=
 λ_ _ _ _ x y=>wCa x y _
theorem JJa (x y:Pt):ltOf (λx y:Pt=>Lib.compareInt x.from_ y.from_) x y=decide (x.from_<y.from_):=by
 unfold ltOf Lib.compareInt
 by_cases a:x.from_<y.from_
 ·simp[a]
 ·by_cases b:y.from_<x.from_<;>simp[a,b]
theorem WDa:SWO (ltOf λx y:Pt=>Lib.compareInt x.from_ y.from_):=
 { irrefl:=λx=>by rw[JJa];simp
   trans:=λx y z a b=>by rw[JJa] at *; simp at *; omega
   ntrans:=λx y z a b=>by rw[JJa] at *; simp at *; omega }
theorem JKa (h:List Ob) (id st:Nat) (l:List Pt) (j:h[id]? =some (.row 175 3 (l.map ptC) st)) (m:l.length<1099511627776):
  ACalls Tryz.prog 106 [.tl id st,.fn (.func 107) [] []] h λr h'=>r= .tup []/\∃l':List Pt,l'.Perm l/\(l'.Pairwise λa b=>ltOf (λx y:Pt=>Lib.compareInt x.from_ y.from_) b a=false)/\h'=h.set id (.row 175 3 (l'.map ptC) st):=by
 refine ZRa vba 3 (by decide) (λ_=>rfl) (ltOf λx y:Pt=>Lib.compareInt x.from_ y.from_) (by kernel_rfl) (λl=>?_) ?_ ?_ h id st l j m
 ·refine ⟨_,List.mergeSort_perm l (λa b=>decide (a.from_<=b.from_)),?_⟩
  have:=List.pairwise_mergeSort (le:=λa b:Pt=>decide (a.from_<=b.from_)) (λa b c p o=>by simp at *; omega) (λa b=>by simp;omega) l
  exact this.imp λh=>by rw[JJa];simpa using h
 ·intro blk off cap d w n f g
  have k:∀args w,(callFunc 107 args).run Tryz.prog w= .ok (.enter 107 args) w:=enters_of Tryz.func107 (by kernel_rfl) rfl
  have e:=AnyQ.slices_SortFunc Ws 3 Tryz.isAgg175 Tryz.sizeOf175 vba (λ_=>rfl) (λx v i=>by simp[vba] at i;rcases i with rfl | rfl | rfl<;>rfl) (λx y=>Lib.compareInt x.from_ y.from_) WDa 107 #[] blk off cap d w k (wDa blk off d.size w) n f g
  exact e
 ·intro A cap w
  have e:=AnyF.slices_SortFunc_none Ws A cap (.func (.func 107) #[] #[]) w
  exact e
theorem ZSa (x:AV):ji Tryz.prog 106 [.v (.slice none 0 0),x] (.tup []):=λh=>by
 refine ⟨by kernel_rfl,⟨_,_,⟨rfl,rfl⟩,.refl⟩,?_⟩
 intro φ l B w g vs i hB a
 obtain ⟨v1,k,rfl,c,j,f,rfl,_,d⟩:=a
 have d:f=[]:=d
 subst d
 have c:v1= .slice none 0 0:=c
 subst c
 have b:=AnyF.slices_SortFunc_none Ws none 0 j w
 refine Calls.mono b ?_
 rintro e w' ⟨rfl,rfl⟩
 exact ⟨_,_,_,_,rfl,⟨rfl,rfl⟩,.refl,Good.refl i hB, #[],rfl,rfl⟩
def yB (l:List Spn) (k:Int):List Pt:=l.map λs=>⟨s.from_,s.to_,k⟩
theorem vW (l:List Spn) (k:Int):(yB l k).length=l.length:=by simp[yB]
theorem KPa (F:List (Nat × Ob)) (h0 h:List Ob) (i:Nat) (p:List Pt) (l:List Spn) (a:Int) (k:LIn F h0 h i 117 175 3 (p.map ptC)) (O:p.length<1073741824) (N:l.length<1073741824):
  ACalls Tryz.prog 102 [spv l,i64 a,.ptr i 0] h λr h'=>r= .tup []/\LIn F h0 h' i 117 175 3 ((p++yB l a).map ptC):=by
 have hex:∃r h',(r=AV.tup []/\LIn F h0 h' i 117 175 3 ((p++yB l a).map ptC))/\ResK h h':=by
  obtain ⟨h',C,E⟩:=k.any ((p++yB l a).map ptC)
  exact ⟨_,h',⟨rfl,C⟩,E⟩
 refine zf Tryz.f102 [] 23 rfl rfl rfl rfl rfl rfl (by decide) (hex) λB=>?_
 simp only[go_sem,List.length_map]
 refine zj (by decide) (λm T h'=>∃n:Nat,n<=l.length/\LIn F h0 h' i 117 175 3 ((p++yB (l.take n) a).map ptC)/\T 1=i64 a/\T 2= .ptr i 0/\T 7=spv l/\T 8=i64 l.length/\T 9=i64 n/\m=l.length - n) l.length
  ⟨0,by omega,by simpa [yB] using k,by simp only[go_sem],by simp only[go_sem],by simp only[go_sem],by (simp only[go_sem]<;>rfl),by (simp only[go_sem]<;>rfl),rfl⟩ ?_
 clear k hex
 rintro m T h' ⟨n,Q,k,t1,t2,A,t8,t9,rfl⟩
 simp only[go_sem,t8,t9]
 refine ways (λe=>?_) (λe=>?_)
 ·have j:=dlt e
  have c:=Zs j
  have t:(n:Int)<l.length:=by omega
  have b:(p++yB (l.take (n+1)) a).map ptC=(p++yB (l.take n) a).map ptC++[[i64 (l[n]).from_,i64 (l[n]).to_,i64 a]]:=by
   rw[show l.take (n+1)=l.take n++[l[n]] from (List.take_append_getElem j).symm]
   simp only[yB,List.map_append,List.map_cons,List.map_nil,List.append_assoc]
   rfl
  have f:((p++yB (l.take n) a).length+1)*25<=140737488355328:=by
   rw[List.length_append,vW,List.length_take];omega
  obtain ⟨z,G⟩:∃z,z=l[n]:=⟨_,rfl⟩
  rw[<-G] at c b
  obtain ⟨P,H⟩:∃P,P=(p++yB (l.take n) a):=⟨_,rfl⟩
  rw[<-H] at b f k
  obtain ⟨D,d,w⟩:=k.at_
  have L:=k.lt
  have g:∀M,(h'++M)[i]? =some (.box 117 [D]):=λM=>zb d
  rcases w with ⟨rfl,s⟩ | ⟨id,st,I,rfl,u⟩
  ·simp only[go_sem,t1,t2,A,t9,c,t,d,g,List.length_map,Int.toNat_natCast,Int.natCast_nonneg]
   rw[s,List.nil_append] at b
   have q:=k.push_nil (M:=[.box 134 (zH z),.row 175 3 [[i64 z.from_,i64 z.to_,i64 a]] 0,.row 175 3 [[i64 z.from_,i64 z.to_,i64 a]] 0]) (zg rfl (zg rfl (zi rfl))) (id:=h'.length+2) (by omega) (by rw[zm (k:=2) rfl];rfl)
   rw[<-b] at q
   exact ⟨l.length - (n+1),by omega,n+1,by omega,by rw[b] at q ⊢;exact q,t8,zx (by omega) rfl,rfl⟩
  ·have J:∀M,(h'++M)[id]? =some (.row 175 3 (P.map ptC) st):=λM=>zb u
   have y:id≠i:=λq=>by rw[q,d] at u;cases u
   have o:∀M o',((h'++M).set id o')[i]? =some (.box 117 [.tl id st]):=λM o'=>by
    rw[List.getElem?_set_ne y];exact g M
   simp only[go_sem,t1,t2,A,t9,c,t,d,g,J,o,f,List.length_map,Int.toNat_natCast,Int.natCast_nonneg]
   have v:∀M,NoRes M->LIn F h0 (((h'++M).set id (.row 175 3 (P.map ptC++[[i64 z.from_,i64 z.to_,i64 a]]) (st+1))).set i (.box 117 [.tl id (st+1)])) i 117 175 3 ((p++yB (l.take (n+1)) a).map ptC):=λM v=>by
    rw[b];exact k.push_own v I u
   exact ⟨l.length - (n+1),by omega,n+1,by omega,v _ (zg rfl (zi rfl)),t8,zx (by omega) rfl,rfl⟩
 ·have K:=qU e
  have x:n=l.length:=by omega
  subst x
  rw[List.take_length] at k
  simp only[go_sem]
  exact ⟨_,rfl,.inl ⟨rfl,k⟩⟩
theorem jha {P:Program} {f:FuncId} {ar:List AV} {h:List Ob} {α:Type} {S:α->Prop} {g:α->List (List AV)} {e:Nat} (n:0<e) (s:∀q,zU h.length (g q)=true) (c:ACalls P f ar h λr h'=>∃q,S q/\∃L,h'=h++L/\NoRes L/\New h e r (g q) L):ACalls P f ar h λr h'=>(∃q,S q/\r= .sl e (g q))/\h'=h:=by
 refine ⟨c.1,(let ⟨_,_,⟨q,i,_⟩,_⟩:=c.2.1;⟨_,_,⟨⟨q,i,rfl⟩,rfl⟩,.refl⟩),λφ m B w t vs l hB b=>?_⟩
 refine (c.2.2 φ m B w t vs l hB b).mono λu w' ⟨v,r,h',g',p,⟨q,i,L,o,_,k⟩,_,d,j⟩=>?_
 subst o
 rw[qR m] at d j
 have a:(fill φ h).length=h.length:=qm
 refine ⟨v,_,h,g',p,⟨⟨q,i,rfl⟩,rfl⟩,.refl,d.drop rfl (by have:=l.ids;exact this),?_⟩
 exact Qi d.ok n j (k _ a) (λid hid=>by rw[a];exact k.root id hid) (by rw[a];exact s q)
def oj (o:List Spn × List Spn × List Spn):Nat->List Spn
 | 0=>o.1
 | 1=>o.2.1
 | _=>o.2.2
def JC (s:Setup) (o:List Spn × List Spn × List Spn) (a:List Spn):Nat->List Pt
 | 0=>yB a 0
 | j+1=>JC s o a j++yB (qx (oj o j) (q8 s (oj o j))) (1+j)++yB (q8 s (oj o j)) (4+j)
def vd (s:Setup) (l:List Seg) (w:Int):List Pt:=JC s (Qq s (vc s l) w) (qo (xV s l) w) 3
theorem X5 (s:Setup) (l:List Spn):(q8 s l).length<=l.length+742:=by
 unfold q8
 split
 ·have c:=V7 l (kr s (zQ l))
  have a:=zy l
  have e:=zy (kr s (zQ l))
  have b:=Zw s (zQ l)
  have d:=vV l
  omega
 ·simp
theorem jia (s:Setup) (p:List Spn) (w:Int):(Qq s p w).1.length<=p.length+372/\(Qq s p w).2.1.length<=2*p.length+745/\(Qq s p w).2.2.length<=2*p.length+745:=by
 have a:=vB (xz (qo p w)).1
 have f:=vC (qo p w) s.dayReg _ a
 have c:=vC (qo p w) s.dayOver _ a
 have o:=vV (qo p w)
 have j:(qo p w).length<=(zE p).length+1:=yQ _ _ _
 have n:=zy p
 have m:(zP (yb s (qo p w) (zQ (qo p w))) s.weekReg).length<=(zE (yb s (qo p w) (zQ (qo p w)))).length:=jt _ _
 have i:=zy (yb s (qo p w) (zQ (qo p w)))
 have l:=jd (yA s (qo p w) (zQ (qo p w))) (zP (yb s (qo p w) (zQ (qo p w))) s.weekReg)
 have k:=jd (qo p w) (yA s (qo p w) (zQ (qo p w)))
 have h:=zy (yA s (qo p w) (zQ (qo p w)))
 have g:=zy (qo p w)
 have b:=zy (zP (yb s (qo p w) (zQ (qo p w))) s.weekReg)
 have d:(yb s (qo p w) (zQ (qo p w))).length<=(qo p w).length+(zQ (qo p w)).length:=f
 have e:(yA s (qo p w) (zQ (qo p w))).length<=(qo p w).length+(zQ (qo p w)).length:=c
 refine ⟨?_,?_,?_⟩
 ·show (zP (yb s (qo p w) (zQ (qo p w))) s.weekReg).length<=_;omega
 ·show (qx (yA s (qo p w) (zQ (qo p w))) (zP (yb s (qo p w) (zQ (qo p w))) s.weekReg)).length<=_;omega
 ·show (qx (qo p w) (yA s (qo p w) (zQ (qo p w)))).length<=_;omega
theorem JLa (h:List Ob) (s:Setup) (a:SA) (k:SIn h s a) (f:SFit s) (u:zw s=true) (x:AV) (l:List Seg) (w:Int) (hx:SlOf h x 5 (l.map jo)) (hl:l.length<32768):
  ACalls Tryz.prog 52 [z6 s a,x,i64 w] h λr h'=>∃q:List Pt,q.Perm (vd s l w)/\∃L,h'=h++L/\NoRes L/\New h 3 r (q.map ptC) L:=by
 have hex:∃r h',(∃q:List Pt,q.Perm (vd s l w)/\∃L,h'=h++L/\NoRes L/\New h 3 r (q.map ptC) L)/\ResK h h':=
  ⟨.sl 3 _,_,⟨_,.refl _,[],rfl,qh,λ_ _=>⟨rfl,λ_=>rfl⟩⟩,zR⟩
 refine zf Tryz.f52 [.tmp 6] 68 rfl rfl rfl rfl rfl rfl (by decide) (hex) λB=>?_
 simp only[go_sem,k.ones]
 refine zc (c16 _ s a (k.app _) f) ?_
 rintro _ M ⟨rfl,rfl⟩
 simp only[go_sem,u,zJ,Bool.not_true]
 refine zc (WBa _ s a (k.app _) f u x l (hx.app _) hl) ?_
 rintro _ M ⟨rfl,rfl⟩
 simp only[go_sem]
 have ψ:=jfa s l
 have ω:=jga s l
 refine zc (WCa _ s a (k.app _) f u _ (vc s l) w (qP _) (by omega)) ?_
 rintro _ M ⟨rfl,rfl⟩
 simp only[go_sem]
 refine zc (k1a _ _ (xV s l) w (qP _) (by omega)) ?_
 rintro _ M ⟨rfl,rfl⟩
 simp only[go_sem]
 obtain ⟨o,P⟩:∃o,o=Qq s (vc s l) w:=⟨_,rfl⟩
 obtain ⟨b,y⟩:∃b,b=qo (xV s l) w:=⟨_,rfl⟩
 have Y:vd s l w=JC s o b 3:=by rw[P,y];rfl
 have X:=jia s (vc s l) w
 have ν:b.length<=(zE (xV s l)).length+1:=by rw[y];exact yQ _ _ _
 have κ:=zy (xV s l)
 rw[Y]
 rw[<-P] at X
 rw[<-P, <-y]
 have F:∀j,(oj o j).length<=468401:=λj=>by
  unfold oj
  split<;>omega
 have i:∀j,(JC s o b j).length<=240000+j*2000000:=λj=>by
  induction j with
  | zero=>show (yB b 0).length<=_;rw[vW];omega
  | succ j ih=>
    have M:=jd (oj o j) (q8 s (oj o j))
    have A:=zy (oj o j)
    have h3:=zy (q8 s (oj o j))
    have h4:=X5 s (oj o j)
    have h5:=F j
    rw[JC,List.length_append,List.length_append,vW,vW];omega
 have base:LIn [(h.length,Ob.box 30 (zr s a))] h (h++[.box 30 (zr s a),.box 117 [.v (.slice none 0 0)]]) (h.length+1) 117 175 3 (([]:List Pt).map ptC):=
  ⟨⟨_,rfl,zg rfl (zi rfl)⟩,by omega,(λz hz=>by rw[List.mem_singleton] at hz;subst hz;exact ⟨by show h.length≠h.length+1;omega,⟨_,_,rfl⟩,by rw[zo rfl];rfl⟩),_,by rw[zm (k:=1) rfl];rfl,.inl ⟨rfl,rfl⟩⟩
 refine zc (KPa _ h _ (h.length+1) [] b 0 base (by decide) (by omega)) ?_
 rintro _ M ⟨rfl,k1⟩
 rw[List.nil_append] at k1
 simp only[go_sem]
 obtain ⟨G,C⟩:∃G,G=AV.fn (.func 102) [] [.ptr (h.length+1) 0]:=⟨_,rfl⟩
 rw[<-C]
 refine zj (by decide) (λm T h'=>∃j:Nat,j<=3/\LIn [(h.length,Ob.box 30 (zr s a))] h h' (h.length+1) 117 175 3 ((JC s o b j).map ptC)/\T 3= .ptr h.length 0/\T 12= .ptr (h.length+1) 0/\T 13=G/\T 43= .ag [spv o.1,spv o.2.1,spv o.2.2]/\T 44=i64 j/\m=3 - j) 3
  ⟨0,by omega,k1,by simp only[go_sem],by simp only[go_sem],by simp only[go_sem],by simp only[go_sem],by (simp only[go_sem]<;>rfl),rfl⟩ ?_
 clear k1 base
 rintro m T h' ⟨j,hj,k1,t3,d,c,D,t44,rfl⟩
 simp only[go_sem,t44]
 refine ways (λe=>?_) (λe=>?_)
 ·have Q:(j:Int)<3:=of_decide_eq_true e
  have H:j<3:=by omega
  have g:nth [spv o.1,spv o.2.1,spv o.2.2] j=spv (oj o j):=by
   have:j=0∨j=1∨j=2:=by omega
   rcases this with rfl | rfl | rfl<;>rfl
  have E:=F j
  have σ:=i j
  have η:=i (j+1)
  have V:h'[h.length]? =some (.box 30 (zr s a)):=k1.keep (.head _)
  obtain ⟨O,hO⟩:∃O,O=oj o j:=⟨_,rfl⟩
  have Z:JC s o b (j+1)=JC s o b j++yB (qx O (q8 s O)) (1+j)++yB (q8 s O) (4+j):=by rw[hO];rfl
  rw[<-hO] at g E
  simp only[go_sem,t3,c,D,t44,g,Q,H,V,C,Nat.mul_one,Int.toNat_natCast,Int.natCast_nonneg]
  refine zc (KNa _ s a (k1.pre.sin k) f _ O (qP _) (by omega)) ?_
  rintro _ A ⟨rfl,rfl⟩
  have hnl:=X5 s O
  simp only[go_sem,c,C]
  refine zc (Jz _ _ _ O (q8 s O) (qP _) (qP _) (by omega) (by omega)) ?_
  rintro _ A ⟨rfl,rfl⟩
  have w1:IntKind.wrap .i64 (1+(j:Int))=1+(j:Int):=zI (n:=1+(j:Int)) (by unfold Fit;omega)
  have w2:IntKind.wrap .i64 (1+(j:Int)+3)=4+(j:Int):=(zI (n:=1+(j:Int)+3) (by unfold Fit;omega)).trans (by omega)
  have ρ:=jd O (q8 s O)
  have θ:=zy O
  have γ:=zy (q8 s O)
  simp only[go_sem,c,C,w1]
  refine zc (KPa _ h _ (h.length+1) (JC s o b j) (qx O (q8 s O)) (1+j) k1 (by omega) (by omega)) ?_
  rintro _ A ⟨rfl,k2⟩
  simp only[go_sem,c,C,w1,w2]
  refine zc (KPa _ h _ (h.length+1) _ (q8 s O) (4+j) k2 (by rw[List.length_append,vW];omega) (by omega)) ?_
  rintro _ h3 ⟨rfl,k3⟩
  rw[<-Z] at k3
  simp only[go_sem,t44]
  exact ⟨3 - (j+1),by omega,j+1,by omega,k3,t3,d,by rw[c,C],D,zx (by omega) rfl,rfl⟩
 ·have hge:¬ (j:Int)<3:=of_decide_eq_false e
  have S:j=3:=by omega
  subst S
  obtain ⟨x2,p,I⟩:=k1.at_
  have ha3:=i 3
  have t:=k1.pre
  have ζ:AV.cells x2=some [x2]:=I.rows.cells
  rcases I with ⟨rfl,K⟩ | ⟨id,st,u1,rfl,N⟩
  ·simp only[go_sem,d,p]
   refine zc (ZSa _ _) ?_
   rintro _ A ⟨rfl,e2⟩
   rw[e2]
   simp only[go_sem,d,p]
   obtain ⟨L,W,hN⟩:=t
   exact ⟨_,rfl,.inl ⟨JC s o b 3,.refl _,L,W,hN,by rw[K];exact λA _=>⟨rfl,λh=>absurd rfl h⟩⟩⟩
  ·simp only[go_sem,d,p]
   refine zc (JKa _ id st _ N (by omega)) ?_
   rintro _ A ⟨rfl,q,q1,q2,rfl⟩
   have α:id≠h.length+1:=λq=>by rw[q,p] at N;cases N
   have R:(h'.set id (.row 175 3 (q.map ptC) st))[h.length+1]? =some (.box 117 [.tl id st]):=by rw[List.getElem?_set_ne α];exact p
   simp only[go_sem,d,R]
   have U:Pre h (h'.set id (.row 175 3 (q.map ptC) st)):=t.set u1 rfl
   have J:OwnS h (h'.set id (.row 175 3 (q.map ptC) st)) 175 3 (.tl id st) (q.map ptC):= .inr ⟨id,st,u1,rfl,List.getElem?_set_self (List.getElem?_eq_some_iff.1 N).1⟩
   obtain ⟨L,W,hN⟩:=U
   rw[W] at J⊢
   exact ⟨_,rfl,.inl ⟨q,q1,L,rfl,hN,J.new (Nat.le_refl _)⟩⟩
theorem KQa (h:List Ob) (s:Setup) (a:SA) (k:SIn h s a) (f:SFit s) (b:zw s=true) (x:AV) (l:List Seg) (w:Int) (d:SlOf h x 5 (l.map jo)) (c:l.length<32768):
  ACalls Tryz.prog 52 [z6 s a,x,i64 w] h λr h'=>(∃q:List Pt,q.Perm (vd s l w)/\r= .sl 3 (q.map ptC))/\h'=h:=
 jha (by decide) (λq=>XTa q) (JLa h s a k f b x l w d c)
end Go.Proofs.YtfmldcilgbbimaaGreat.Ax
namespace Go.Proofs.YtfmldcilgbbimaaGreat.Ax
open Go Go.Proofs
set_option maxRecDepth 100000
def vD (f:Nat->Int):List AV:=[i64 (f 0),i64 (f 1),i64 (f 2),i64 (f 3),i64 (f 4),i64 (f 5),i64 (f 6)]
theorem jja (f:Nat->Int) {k:Nat} (a:k<7) (v:Int):lay (vD f) k [i64 v]=some (vD λj=>if j=k then v else f j):=by
 have:k=0∨k=1∨k=2∨k=3∨k=4∨k=5∨k=6:=by omega
 rcases this with rfl | rfl | rfl | rfl | rfl | rfl | rfl<;>rfl
theorem ZTa (f:Nat->Int) {k:Nat} (a:k<7):nth (vD f) k=i64 (f k):=by
 have:k=0∨k=1∨k=2∨k=3∨k=4∨k=5∨k=6:=by omega
 rcases this with rfl | rfl | rfl | rfl | rfl | rfl | rfl<;>rfl
theorem Wt (f:Nat->Int):cut (vD f) 0 7=some (vD f):=rfl
theorem jka (f g:Nat->Int):lay (vD f) 0 (vD g)=some (vD g):=rfl
theorem ZUa (f:Nat->Int):(vD f).all AV.one=true:=rfl
theorem ZVa (f:Nat->Int):(vD f).length=7:=rfl
attribute [go_sem] Wt jka ZUa ZVa
def ptS (p:Pt):Spn:=⟨p.from_,p.to_⟩
def vX (q:List Pt) (k:Int):List Spn:=(q.filter λp=>p.kind==k).map ptS
theorem x2a (q:List Pt) (k:Int) (p:Pt):vX (q++[p]) k=if p.kind==k then vX q k++[ptS p] else vX q k:=by
 unfold vX
 rw[List.filter_append,List.map_append]
 cases h:p.kind==k<;>simp[h]
theorem YP (q:List Pt) (k:Int):(vX q k).length<=q.length:=by
 unfold vX
 rw[List.length_map]
 exact List.length_filter_le _ q
def ZP (q:List Pt) (k:Int):Int:=qZ (zE (vX q k))
theorem KRa {l:List Pt} {i:Nat} (h:i<l.length):(l.map ptC)[i]? =some (ptC l[i]):=by rw[List.getElem?_map,List.getElem?_eq_getElem h];rfl
theorem x3a {q:List Pt} {n:Nat} (h:n<q.length) (k:Int):vX (q.take (n+1)) k=if (q[n]).kind==k then vX (q.take n) k++[ptS q[n]] else vX (q.take n) k:=by
 rw[show q.take (n+1)=q.take n++[q[n]] from (List.take_append_getElem h).symm,x2a]
theorem ve {h0 h':List Ob} {i id:Nat} {ty e:Nat} {rows:List (List AV)} {st:Nat} {o:Ob} {t:TypeId} {cs:List AV} (a:h'[i]? =some (.box t cs)) (b:h'[id]? =some (.row ty e rows st)):(h'.set id o)[i]? =some (.box t cs):=by
 have:id≠i:=λq=>by rw[q,a] at b;cases b
 rw[List.getElem?_set_ne this];exact a
set_option maxHeartbeats 1000000 in
theorem JMa (h:List Ob) (x:AV) (q:List Pt) (P:SlOf h x 3 (q.map ptC)) (Z:q.length<1048576):
  ACalls Tryz.prog 51 [x] h λr h'=>r= .ag (vD λj=>ZP q j)/\h'=h:=by
 refine zf Tryz.f51 [.cell 2 42] 35 rfl rfl rfl rfl rfl rfl (by decide) (⟨_,_,⟨rfl,rfl⟩,.refl⟩) λB=>?_
 simp only[go_sem]
 refine zj (by decide) (λm T h'=>∃k:Nat,k<=7/\Pre h h'/\h'[h.length]? =some (.box 42 (vD λj=>if j<k then ZP q j else 0))/\T 0=x/\T 2= .ptr h.length 0/\T 7=i64 k/\m=7 - k) 7
  ⟨0,by omega,⟨_,rfl,zi rfl⟩,by rw[zo rfl];rfl,by simp only[go_sem],by simp only[go_sem],by (simp only[go_sem]<;>rfl),rfl⟩ ?_
 rintro m T h' ⟨k,Y,a,c,t0,t2,l,rfl⟩
 simp only[go_sem,l]
 refine ways (λe=>?_) (λe=>?_)
 ·have C:(k:Int)<7:=of_decide_eq_true e
  have u:k<7:=by omega
  have o:=(a.sl P).rows
  simp only[go_sem,t0,l,o,List.length_map]
  refine zj (by decide) (λm T t=>∃n:Nat,n<=q.length/\Pre h t/\t[h.length]? =some (.box 42 (vD λj=>if j<k then ZP q j else 0))/\OwnS h t 134 2 (T 4) ((vX (q.take n) k).map zH)/\T 0=x/\T 2= .ptr h.length 0/\T 3=i64 k/\T 7=i64 k/\T 10=x/\T 11=i64 q.length/\T 12=i64 n/\m=q.length - n) q.length
   ⟨0,by omega,a,c,.inl ⟨by simp only[go_sem],rfl⟩,by simp only[go_sem,t0],by simp only[go_sem,t2],by (simp only[go_sem]<;>rfl),by simp only[go_sem,l],by simp only[go_sem,t0],by (simp only[go_sem]<;>rfl),by (simp only[go_sem]<;>rfl),rfl⟩ ?_
  clear t0 t2 l o c a
  rintro m T t ⟨n,hn,a,c,A,t0,t2,t3,l,t10,p,d,rfl⟩
  simp only[go_sem,p,d]
  refine ways (λG=>?_) (λG=>?_)
  ·have f:=dlt G
   have w:=a.sl P
   have H:=w.at (i:=n) (by simpa using f)
   have o:=w.rows
   have g:=KRa f
   have z:(n:Int)<q.length:=by omega
   have b:=x3a f k
   obtain ⟨y,W⟩:∃y,y=q[n]:=⟨_,rfl⟩
   rw[<-W] at g b
   have X:List.length (ptC y)=3:=rfl
   have V:ptC y=[i64 y.from_,i64 y.to_,i64 y.kind]:=rfl
   rw[V] at g
   have fin:n+1<=q.length:=by omega
   simp only[go_sem,t3,t10,d,H,o,g,z,List.length_map,Int.toNat_natCast,Int.natCast_nonneg]
   refine ways (λv=>?_) (λv=>?_)
   ·rw[v] at b
    simp only[if_true] at b
    rcases A with ⟨t4,J⟩ | ⟨id,st,O,t4,S⟩
    ·simp only[go_sem,t4,d]
     refine ⟨q.length - (n+1),by omega,n+1,fin,a.app (zg rfl (zg rfl (zi rfl))),zb c,.inr ⟨_,_,by have:=a.len;omega,rfl,?_⟩,t0,t2,t3,l,t10,p,zx (by omega) rfl,rfl⟩
     rw[b,List.map_append,J,zm rfl]
     rfl
    ·have E:(((vX (q.take n) k).map zH).length+1)*17<=140737488355328:=by
      have:=YP (q.take n) k
      rw[List.length_take] at this
      rw[List.length_map];omega
     have K:∀M,(t++M)[id]? =some (.row 134 2 ((vX (q.take n) k).map zH) st):=λM=>zb S
     simp only[go_sem,t4,d,K,E]
     refine ⟨q.length - (n+1),by omega,n+1,fin,(a.app (zg rfl (zi rfl))).set O rfl,ve (h0:=h) (zb c) (K _),.inr ⟨id,st+1,O,rfl,?_⟩,t0,t2,t3,l,t10,p,zx (by omega) rfl,rfl⟩
     rw[b,List.map_append]
     exact zh (K _)
   ·have v:(y.kind==(k:Int))=false:=by simpa using v
    rw[v] at b
    simp only[Bool.false_eq_true,if_false] at b
    simp only[go_sem,d]
    exact ⟨q.length - (n+1),by omega,n+1,fin,a.app (zi rfl),zb c,by rw[b];exact A.app _,t0,t2,t3,l,t10,p,zx (by omega) rfl,rfl⟩
  ·have N:=qU G
   have I:n=q.length:=by omega
   subst I
   rw[List.take_length] at A
   have z:=YP q k
   simp only[go_sem,t3]
   refine zc (k0a _ (T 4) (vX q k) A.rows (by omega)) ?_
   rintro _ h3 ⟨rfl,U⟩
   rw[U]
   have s:=jja (λj=>if j<k then ZP q j else 0) u (ZP q k)
   have D:(λj:Nat=>if j=k then ZP q k else if j<k then ZP q j else 0)=λj:Nat=>if j<k+1 then ZP q j else 0:=by
    funext j
    by_cases Q:j=k
    ·subst Q;rw[if_pos rfl,if_pos (by omega)]
    ·rw[if_neg Q]
     by_cases t:j<k
     ·rw[if_pos t,if_pos (by omega)]
     ·rw[if_neg t,if_neg (by omega)]
   rw[D] at s
   rw[show qZ (zE (vX q k))=ZP q k from rfl]
   simp only[go_sem,t2,t3,l,c,s,C,u,Nat.mul_one,Nat.zero_add,Int.toNat_natCast,Int.natCast_nonneg]
   exact ⟨7 - (k+1),by omega,k+1,by omega,a.set (Nat.le_refl _) rfl,zh c,t0,zx (by omega) rfl,rfl⟩
 ·have N:¬ (k:Int)<7:=of_decide_eq_false e
  have F:k=7:=by omega
  subst F
  have c:h'[h.length]? =some (.box 42 (vD λj=>ZP q j)):=c
  simp only[go_sem,t2,c,Wt,jka]
  rw[zT c]
  obtain ⟨L,R,hN⟩:=a
  refine ⟨.ag (vD λj=>ZP q j),by simp only[go_sem,t2,c,Wt],.inr ⟨h,L,R,rfl,rfl,.refl,rfl,rfl⟩⟩
set_option maxRecDepth 100000
def jla (n:Int):Int:=min (max n 0) 604800
theorem jma (n:Int):ji Tryz.prog 121 [i64 n] (i64 (jla n)):=λh=>by
 refine zf Tryz.f121 [.tmp 2] 6 rfl rfl rfl rfl rfl rfl (by decide) (⟨_,_,⟨rfl,rfl⟩,.refl⟩) λB=>?_
 simp only[go_sem]
 (first | refine zd ?_ | refine ze ?_ (by rfl))<;>(simp only[go_sem,jla,Zj,Zk]<;>try rfl)
def x4a (n d:Int):Int:=(Kx n d).1
theorem XUa (n d:Int):ji Tryz.prog 122 [i64 n,i64 d] (i64 (x4a n d)):=λh=>by
 refine zf Tryz.f122 [.tmp 4] 14 rfl rfl rfl rfl rfl rfl (by decide) (⟨_,_,⟨rfl,rfl⟩,.refl⟩) λB=>?_
 simp only[go_sem]
 refine zc (c70 n d _) ?_
 rintro _ a ⟨rfl,rfl⟩
 simp only[go_sem,Q4]
 (first | refine zd ?_ | refine ze ?_ (by rfl))<;>(simp only[go_sem,x4a]<;>try rfl)
def zMa (r k:Int):Int:=wr (r*wr (k+1))
def Wu (s:Setup) (r k:Int):Int:=if k>3 then wr (zMa r (k - 3)+wr (2*s.diff)) else zMa r k
theorem vca (h:List Ob) (s:Setup) (a:SA) (k:SIn h s a) (r n:Int) (c:n<=3):
  ACalls Tryz.prog 123 [z6 s a,i64 r,i64 n] h λb h'=>b=i64 (zMa r n)/\h'=h:=by
 have q:decide (n>3)=false:=by rw[decide_eq_false_iff_not];omega
 refine zf Tryz.f123 [.tmp 6] 22 rfl rfl rfl rfl rfl rfl (by decide) (⟨_,_,⟨rfl,rfl⟩,.refl⟩) λB=>?_
 simp only[go_sem,k.ones,q]
 (first | refine zd ?_ | refine ze ?_ (by rfl))<;>(simp only[go_sem,zMa]<;>try rfl)
theorem KSa (h:List Ob) (s:Setup) (a:SA) (k:SIn h s a) (r n:Int) (d:n<=6):
  ACalls Tryz.prog 123 [z6 s a,i64 r,i64 n] h λc h'=>c=i64 (Wu s r n)/\h'=h:=by
 by_cases b:n>3
 ·have q:decide (n>3)=true:=decide_eq_true b
  have w:IntKind.wrap .i64 (n - 3)=n - 3:=zI (n:=n - 3) (by unfold Fit;omega)
  refine zf Tryz.f123 [.tmp 6] 22 rfl rfl rfl rfl rfl rfl (by decide) (⟨_,_,⟨rfl,rfl⟩,.refl⟩) λB=>?_
  simp only[go_sem,k.ones,q]
  refine zn rfl [] 0 [(1,0,[]),(2,0,[]),(3,0,[]),(5,0,[]),(0,0,[]),(6,0,[]),(7,0,[]),(4,0,[6]),(8,0,[]),(9,0,[])] rfl (by decide) (by decide) ?_
  simp only[go_sem,k.ones,w]
  refine zc (vca _ s a (k.app _) r (n - 3) (by omega)) ?_
  rintro _ e ⟨rfl,rfl⟩
  simp only[go_sem,k.ones,w]
  (first | refine zd ?_ | refine ze ?_ (by rfl))<;>(simp only[go_sem,Wu,b]<;>try rfl)
 ·refine (vca h s a k r n (by omega)).mono ?_
  rintro c h' ⟨rfl,rfl⟩
  exact ⟨by unfold Wu;rw[if_neg b],rfl⟩
def upI (n d:Int):Int × Int:=if d<=0 then (0,20) else if (xE n d).2>0 then (wr ((xE n d).1+1),0) else ((xE n d).1,0)
theorem cUp (n d:Int):ji Tryz.prog 125 [i64 n,i64 d] (Q4 (upI n d)):=λh=>by
 refine zf Tryz.f125 [.tmp 4,.tmp 5] 21 rfl rfl rfl rfl rfl rfl (by decide) (⟨_,_,⟨rfl,rfl⟩,.refl⟩) λB=>?_
 simp only[go_sem]
 refine ways (λe=>?_) (λe=>?_)
 ·have a:d<=0:=of_decide_eq_true e
  simp only[go_sem]
  (first | refine zd ?_ | refine ze ?_ (by rfl))<;>(simp only[go_sem,upI,a,Q4]<;>try rfl)
 ·have a:¬ d<=0:=of_decide_eq_false e
  simp only[go_sem]
  refine zc (c97 n d (by omega) _) ?_
  rintro _ f ⟨rfl,rfl⟩
  simp only[go_sem,Q4]
  refine ways (λb=>?_) (λb=>?_)
  ·have c:(xE n d).2>0:=of_decide_eq_true b
   simp only[go_sem]
   (first | refine zd ?_ | refine ze ?_ (by rfl))<;>(simp only[go_sem,upI,a,c,Q4]<;>try rfl)
  ·have c:¬ (xE n d).2>0:=of_decide_eq_false b
   simp only[go_sem]
   (first | refine zd ?_ | refine ze ?_ (by rfl))<;>(simp only[go_sem,upI,a,c,Q4]<;>try rfl)
def Wv:Int->List Int->Int × Int
 | a,[]=>(a,0)
 | a,x::r=>if (decide (x>0)==decide (wr (a+x)>a)) || x==0 then Wv (wr (a+x)) r else (0,10)
theorem YZa (h:List Ob) (x:AV) (l:List Int) (g:SlOf h x 1 (l.map zz)) (u:l.length<1048576):
  ACalls Tryz.prog 124 [x] h λr h'=>r=Q4 (Wv 0 l)/\h'=h:=by
 refine zf Tryz.f124 [.tmp 2,.tmp 3] 30 rfl rfl rfl rfl rfl rfl (by decide) (⟨_,_,⟨rfl,rfl⟩,.refl⟩) λB=>?_
 simp only[go_sem]
 refine Wb (by decide) ?_
 simp only[go_sem,g.rows,List.length_map]
 refine zj (by decide) (λm T h'=>∃(i:Nat) (k:Int),i<=l.length/\h'=h/\Wv 0 l=Wv k (l.drop i)/\T 4=i64 k/\T 8=x/\T 9=i64 l.length/\T 10=i64 i/\m=l.length - i) l.length
  ⟨0,0,by omega,rfl,rfl,by (simp only[go_sem]<;>rfl),by simp only[go_sem],by (simp only[go_sem]<;>rfl),by (simp only[go_sem]<;>rfl),rfl⟩ ?_
 rintro m T h' ⟨i,k,t,rfl,a,t4,t8,t9,t10,rfl⟩
 simp only[go_sem,t9,t10]
 refine ways (λe=>?_) (λe=>?_)
 ·have d:=dlt e
  have c:=QU d
  have n:=g.at (i:=i) (by rw[List.length_map];exact d)
  have j:=g.rows
  have o:(i:Int)<l.length:=by omega
  rw[List.drop_eq_getElem_cons d,Wv] at a
  obtain ⟨z,q⟩:∃z,z=l[i]:=⟨_,rfl⟩
  rw[<-q] at c a
  simp only[go_sem,t4,t8,t10,n,j,c,o,List.length_map,Int.toNat_natCast,Int.natCast_nonneg]
  obtain ⟨b,f⟩:∃b:Bool,b=(decide (z>0)==decide (wr (k+z)>k)):=⟨_,rfl⟩
  rw[<-f] at a
  rw[show (decide (z>0)==decide (IntKind.i64.wrap (k+z)>k))=b from f.symm]
  cases b
  ·cases h0:z==0
   ·rw[h0] at a
    simp only[Bool.or_self,Bool.false_eq_true,if_false] at a
    simp only[go_sem,h0,zJ, <-f]
    (first | refine zd ?_ | refine ze ?_ (by rfl))<;>(simp only[go_sem,a,Q4]<;>try rfl)
   ·rw[h0] at a
    simp only[Bool.or_true,if_true] at a
    simp only[go_sem,h0,zJ, <-f,t10]
    exact ⟨l.length - (i+1),by omega,i+1,_,by omega,a,rfl,t8,t9,zx (by omega) rfl,rfl⟩
  ·simp only[Bool.true_or,if_true] at a
   simp only[go_sem,zJ, <-f,t10]
   exact ⟨l.length - (i+1),by omega,i+1,_,by omega,a,rfl,t8,t9,zx (by omega) rfl,rfl⟩
 ·have s:=qU e
  have p:i=l.length:=by omega
  subst p
  rw[List.drop_length,Wv] at a
  simp only[go_sem,t4]
  (first | refine zd ?_ | refine ze ?_ (by rfl))<;>(simp only[go_sem,a,Q4]<;>try rfl)
end Go.Proofs.YtfmldcilgbbimaaGreat.Ax
