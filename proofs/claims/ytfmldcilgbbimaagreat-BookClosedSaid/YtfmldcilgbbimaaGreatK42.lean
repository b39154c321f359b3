/-
  Joined.
-/
import Derived.Test.YtfmldcilgbbimaaGreatK41
set_option linter.unusedSimpArgs false
set_option linter.unusedVariables false
namespace Go.Proofs.YtfmldcilgbbimaaGreat.Ax
open Go Go.Proofs
set_option maxRecDepth 100000
def Sb (z:AV) (b:List Int):Prop:=z= .sl 1 (b.map je)∨z= .v (.slice none 0 0)/\b=[]
theorem Sb.sl {h:List Ob} {z:AV} {b:List Int} (k:Sb z b):SlOf h z 1 (b.map je):=by
 rcases k with rfl | ⟨rfl,rfl⟩
 ·exact ⟨rfl,λ_=>rfl⟩
 ·exact ⟨rfl,λh=>absurd rfl h⟩
theorem Sb.lt {n:Nat} {z:AV} {b:List Int} (k:Sb z b):z.lt n=true:=by
 rcases k with rfl | ⟨rfl,rfl⟩
 ·exact QZ _
 ·rfl
def Q0 (q:List Int × Bool) (n:Int):List Int × Bool:=(if q.2 && (ws q.1 [n]).2==0 then (ws q.1 [n]).1 else q.1,q.2 && (ws q.1 [n]).2==0)
def j6 (q:List Int × Bool) (ns:List Int):List Int × Bool:=ns.foldl Q0 q
theorem jDa (q:List Int × Bool) (n:Int):(Q0 q n).1.length<=q.1.length+9:=by
 have:=WC n
 have a:(ws q.1 [n]).1.length<=q.1.length+9:=by
  unfold ws
  split
  ·simp
  ·simp only[List.length_append,List.flatMap_cons,List.flatMap_nil,List.append_nil];omega
 unfold Q0
 simp only
 split
 ·exact a
 ·omega
theorem Qx:∀(ns:List Int) (q:List Int × Bool),(j6 q ns).1.length<=q.1.length+9*ns.length
 | [],q=>by simp[j6]
 | n::ns,q=>by
   have b:=jDa q n
   have a:=Qx ns (Q0 q n)
   rw[j6,List.foldl_cons,List.length_cons]
   unfold j6 at a
   omega
theorem wOa {q:List Int × Bool} {ns:List Int} {i:Nat} (h:i<ns.length):j6 q (ns.take (i+1))=Q0 (j6 q (ns.take i)) ns[i]:=by
 unfold j6
 rw[show ns.take (i+1)=ns.take i++[ns[i]] from (List.take_append_getElem h).symm,List.foldl_append];rfl
def WPa (h:List Ob) (i:Nat) (p:AV) (n:Int):Prop:=∃id off ty cs,p= .ptr id off/\id≠i/\h[id]? =some (.box ty cs)/\off<cs.length/\nth cs off=i64 n
theorem Y3a (h:List Ob) (i:Nat) (z:AV) (b:List Int) (ok:Bool) (x:AV) (d:List (AV × Int)) (K:h[i]? =some (.box 99 [z,bl ok])) (hz:Sb z b) (hx:SlOf h x 1 (d.map λp=>[p.1])) (hp:∀p∈d,WPa h i p.1 p.2) (hb:b.length<536870912) (hn:d.length<1048576):
  ACalls Tryz.prog 41 [.ptr i 0,x] h λr h'=>r= .tup []/\∃s,Sb s (j6 (b,ok) (d.map (·.2))).1/\h'=h.set i (.box 99 [s,bl (j6 (b,ok) (d.map (·.2))).2]):=by
 have hex:∃r h',(r=AV.tup []/\∃s,Sb s (j6 (b,ok) (d.map (·.2))).1/\h'=h.set i (.box 99 [s,bl (j6 (b,ok) (d.map (·.2))).2]))/\ResK h h':=
  ⟨_,_,⟨rfl,_,.inl rfl,rfl⟩,zC K rfl⟩
 refine zf Tryz.f41 [] 46 rfl rfl rfl rfl rfl rfl (by decide) (hex) λB=>?_
 simp only[go_sem,hx.rows,List.length_map]
 obtain ⟨ns,A⟩:∃ns,ns=d.map (·.2):=⟨_,rfl⟩
 have β:ns.length=d.length:=by rw[A];simp
 have X:=λj=>Qx (ns.take j) (b,ok)
 rw[<-A]
 have I:=(List.getElem?_eq_some_iff.1 K).1
 refine zj (by decide) (λm T h'=>∃(j:Nat) (s:AV) (L:List Ob),j<=d.length/\Sb s (j6 (b,ok) (ns.take j)).1/\h'=h.set i (.box 99 [s,bl (j6 (b,ok) (ns.take j)).2])++L/\NoRes L/\T 0= .ptr i 0/\T 8=x/\T 9=i64 d.length/\T 10=i64 j/\m=d.length - j) d.length
  ⟨0,z,[],by omega,hz,by rw[List.append_nil];exact (zT K).symm,qh,by simp only[go_sem],by simp only[go_sem],by (simp only[go_sem]<;>rfl),by (simp only[go_sem]<;>rfl),rfl⟩ ?_
 rintro m T h' ⟨j,v,L,hj,f,rfl,U,t0,t8,t9,t10,rfl⟩
 simp only[go_sem,t9,t10]
 refine ways (λe=>?_) (λe=>?_)
 ·have w:=dlt e
  have u:(d.map λp=>[p.1])[j]? =some [d[j].1]:=by rw[List.getElem?_map,List.getElem?_eq_getElem w];rfl
  have Y:(j:Int)<d.length:=by omega
  have a:=wOa (q:=(b,ok)) (ns:=ns) (i:=j) (by omega)
  have S:ns[j]'(by omega)=d[j].2:=by simp[A]
  obtain ⟨id,off,ty,cs,p1,p2,p3,p4,O⟩:=hp d[j] (List.getElem_mem w)
  have F:=X j
  rw[S] at a
  obtain ⟨n,Z⟩:∃n,n=d[j].2:=⟨_,rfl⟩
  obtain ⟨pt,W⟩:∃pt,pt=d[j].1:=⟨_,rfl⟩
  rw[<-Z] at a O
  rw[<-W] at u p1
  subst p1
  obtain ⟨Q,hQ⟩:∃Q,Q=j6 (b,ok) (ns.take j):=⟨_,rfl⟩
  rw[<-hQ] at a f F⊢
  have θ:Q.1.length<1073741824:=by
   simp only[List.length_take] at F
   omega
  obtain ⟨H,C⟩:∃H,H=h.set i (.box 99 [v,bl Q.2])++L:=⟨_,rfl⟩
  have G:H[i]? =some (.box 99 [v,bl Q.2]):=by rw[C];exact zb (List.getElem?_set_self I)
  have γ:H[id]? =some (.box ty cs):=by rw[C];exact zb (by rw[List.getElem?_set_ne (Ne.symm p2)];exact p3)
  have J:SlOf H x 1 (d.map λp=>[p.1]):=by rw[C];exact (hx.keep (.setB K)).app _
  have α:∀o,H.set i o=h.set i o++L:=λo=>by rw[C,List.set_append_left _ _ (by rw[List.length_set];exact I),List.set_set]
  rw[<-C]
  clear C
  have V:=J.rows
  have δ:=J.at (i:=j) (by rw[List.length_map];exact w)
  have c:∀M,(H++M)[i]? =some (.box 99 [v,bl Q.2]):=λM=>zb G
  have t:∀M,(H++M)[id]? =some (.box ty cs):=λM=>zb γ
  have g:=(f.sl (h:=h)).one
  have k:=(f.sl (h:=h)).cells
  simp only[go_sem,t0,t8,t10,V,δ,u,Y,List.length_map,Int.toNat_natCast,Int.natCast_nonneg]
  refine zn rfl [.res] 1 [(0,0,[]),(1,0,[]),(2,0,[]),(4,0,[]),(5,0,[]),(3,0,[]),(6,0,[]),(7,0,[]),(8,0,[]),(9,0,[]),(10,0,[]),(11,0,[]),(12,0,[]),(13,0,[])] rfl (by decide) (by decide) ?_
  simp only[go_sem,t0,c,t,p4,O,g,k]
  refine zc (WOa _ v _ Q.1 [n] f.sl ⟨by rw[zX,zo rfl];rfl,λ_=>by rw[qE,zo rfl];rfl⟩ (by omega) (by show 1<1048576;decide)) ?_
  rintro _ h3 ⟨rfl,e3⟩
  rw[e3]
  obtain ⟨R,hR⟩:∃R,R=ws Q.1 [n]:=⟨_,rfl⟩
  rw[<-hR]
  simp only[go_sem,t0,c,t,p4,O,g,k]
  have D:Q0 Q n=(if Q.2 && R.2==0 then R.1 else Q.1,Q.2 && R.2==0):=by rw[hR];rfl
  rw[D] at a
  have y:∀o M,((H++M).set i o)[i]? =some o:=λo M=>zh (c M)
  have l:∀o M,(H++M).set i o=h.set i o++(L++M):=λo M=>by
   rw[List.set_append_left _ _ (by exact (List.getElem?_eq_some_iff.1 G).1),α,List.append_assoc]
  cases E:Q.2
  ·rw[E] at a c
   simp only[Bool.false_and,Bool.false_eq_true,if_false] at a
   simp only[go_sem,E,zJ,t0,t10,c,y,g,k]
   exact ⟨d.length - (j+1),by omega,j+1,v,L++[.row 3 1 [[i64 n]] 0],by omega,by rw[a];exact f,by rw[a];exact l _ _,U.app (zi rfl),t8,t9,zx (by omega) rfl,rfl⟩
  ·rw[E] at a c
   simp only[Bool.true_and] at a
   cases N:R.2==0
   ·rw[N] at a
    simp only[Bool.false_eq_true,if_false] at a
    simp only[go_sem,E,N,zJ,t0,t10,c,y,g,k]
    exact ⟨d.length - (j+1),by omega,j+1,v,L++[.row 3 1 [[i64 n]] 0],by omega,by rw[a];exact f,by rw[a];exact l _ _,U.app (zi rfl),t8,t9,zx (by omega) rfl,rfl⟩
   ·rw[N] at a
    simp only[if_true] at a
    simp only[go_sem,E,N,zJ,t0,t10,c,y,g,k,List.set_set]
    exact ⟨d.length - (j+1),by omega,j+1,.sl 1 (R.1.map je),L++[.row 3 1 [[i64 n]] 0],by omega,by rw[a];exact .inl rfl,by rw[a];exact l _ _,U.app (zi rfl),t8,t9,zx (by omega) rfl,rfl⟩
 ·have ο:=qU e
  have P:j=d.length:=by omega
  subst P
  rw[<-β,List.take_length] at f⊢
  simp only[go_sem]
  exact ⟨.tup [],rfl,.inr ⟨_,L,rfl,by rw[List.length_set],rfl,KeepLt.set .refl rfl (by simp only[Xz,zG,f.lt,AV.lt,Bool.and_self]),rfl,v,f,rfl⟩⟩
set_option maxRecDepth 100000
structure Cm where
 kind:Int
 fx:Fx
 worker:Int
 week:Int
 last:Int
abbrev zK (s:Setup) (a:SA) (x c:AV) (err:Int) (rows segs bytes:AV) (q:Cm):List AV:=[i64 s.places,a.w,i64 s.pace.1,i64 s.pace.2,a.e,a.c,a.g,i64 s.allow,i64 s.unit,i64 s.cap,i64 s.paidBreak,i64 s.autoAfter,i64 s.autoBreak,
 i64 s.dayReg,i64 s.dayOver,i64 s.weekReg,i64 s.nightFrom,i64 s.nightTo,a.r,i64 s.diff,i64 s.least,i64 s.fault,a.t,x,c,i64 err,rows,segs,bytes,i64 q.kind,i64 q.fx.op,i64 q.fx.ev.id,i64 q.fx.ev.worker,i64 q.fx.ev.at_,i64 q.fx.ev.kind,i64 q.fx.ev.from_,i64 q.fx.ev.to_,i64 q.fx.ev.element,i64 q.fx.ev.units,i64 q.fx.ev.class_,i64 q.fx.ev.gear,i64 q.fx.ev.code,i64 q.worker,i64 q.week,i64 q.last]
def qH (err:Int) (c:Bool) (e:Int):Int:=if err==0 && !c then e else err
section
variable {h:List Ob} {d:Nat} {s:Setup} {a:SA} {x c:AV} {err:Int} {rows segs bytes:AV} {q:Cm}
theorem Qy (g:h[d]? =some (.box 145 (zK s a x c err rows segs bytes q))) (b:Bool) (e:Int):
  ACalls Tryz.prog 147 [.ptr d 0,bl b,i64 e] h λr h'=>r=bl (qH err b e==0)/\h'=h.set d (.box 145 (zK s a x c (qH err b e) rows segs bytes q)):=by
 have j:∀o,(h.set d o)[d]? =some o:=λo=>zh g
 refine zf Tryz.f147 [.tmp 6] 28 rfl rfl rfl rfl rfl rfl (by decide) (⟨_,_,⟨rfl,rfl⟩,zC g rfl⟩) λB=>?_
 simp only[go_sem,g]
 cases f:err==0
 ·have i:qH err b e=err:=by unfold qH;rw[f];rfl
  rw[i]
  simp only[go_sem,f,zJ,g]
  exact ⟨bl (err==0),by simp only[go_sem,f],.inl ⟨by rw[f],(zT g).symm⟩⟩
 ·cases b
  ·have i:qH err false e=e:=by unfold qH;rw[f];rfl
   rw[i]
   simp only[go_sem,f,zJ,g,j]
   exact ⟨bl (e==0),by simp only[go_sem],.inl ⟨rfl,rfl⟩⟩
  ·have i:qH err true e=err:=by unfold qH;rw[f];rfl
   rw[i]
   simp only[go_sem,f,zJ,g]
   exact ⟨bl (err==0),by simp only[go_sem,f],.inl ⟨by rw[f],(zT g).symm⟩⟩
theorem K7 (b:h[d]? =some (.box 145 (zK s a x c err rows segs bytes q))) (l:List Int) (e:SlOf h c 1 (l.map zz)) (f:l.length<1048576) (n:Int):
  ACalls Tryz.prog 148 [.ptr d 0,i64 n] h λr h'=>r=bl (l.any (n== ·))/\h'=h:=by
 refine zf Tryz.f148 [.tmp 4] 12 rfl rfl rfl rfl rfl rfl (by decide) (⟨_,_,⟨rfl,rfl⟩,.refl⟩) λB=>?_
 simp only[go_sem,b]
 refine zc (wKa _ c l n e f) ?_
 rintro _ g ⟨rfl,rfl⟩
 simp only[go_sem]
 (first | refine zd ?_ | refine ze ?_ (by rfl))<;>(simp only[go_sem]<;>try rfl)
def jD (s:Setup) (q:Cm):Bool:=decide (q.worker≥0) && decide (q.worker<(s.rates.length:Int))
def Qz (q:Cm):Bool:=decide (q.week≥0) && decide (q.week<=52)
theorem vma (e:h[d]? =some (.box 145 (zK s a x c err rows segs bytes q))) (k:SIn h s a):
  ACalls Tryz.prog 149 [.ptr d 0] h λr h'=>r=bl (jD s q)/\h'=h:=by
 have f:=k.r.rows
 refine zf Tryz.f149 [.tmp 2] 24 rfl rfl rfl rfl rfl rfl (by decide) (⟨_,_,⟨rfl,rfl⟩,.refl⟩) λB=>?_
 simp only[go_sem]
 refine zn rfl [] 0 [(0,0,[]),(1,0,[]),(2,0,[]),(3,0,[]),(4,0,[]),(5,0,[]),(6,0,[]),(7,0,[]),(8,0,[]),(9,0,[]),(10,0,[]),(12,0,[]),(13,0,[]),(14,0,[]),(15,0,[]),(16,0,[]),(11,0,[]),(17,0,[]),(18,0,[]),(19,0,[]),(20,0,[]),(21,0,[])] rfl (by decide) (by decide) ?_
 simp only[go_sem,e]
 cases b:decide (q.worker≥0)
 ·simp only[go_sem,b,zJ,e]
  (first | refine zd ?_ | refine ze ?_ (by rfl))<;>(simp only[go_sem,jD,b,Bool.false_and]<;>try rfl)
 ·simp only[go_sem,b,zJ,e,f,List.length_map]
  (first | refine zd ?_ | refine ze ?_ (by rfl))<;>(simp only[go_sem,jD,b,Bool.true_and]<;>try rfl)
theorem Qfa (e:h[d]? =some (.box 145 (zK s a x c err rows segs bytes q))):
  ACalls Tryz.prog 150 [.ptr d 0] h λr h'=>r=bl (Qz q)/\h'=h:=by
 refine zf Tryz.f150 [.tmp 2] 17 rfl rfl rfl rfl rfl rfl (by decide) (⟨_,_,⟨rfl,rfl⟩,.refl⟩) λB=>?_
 simp only[go_sem,e]
 cases b:decide (q.week≥0)
 ·simp only[go_sem,b,zJ,e]
  (first | refine zd ?_ | refine ze ?_ (by rfl))<;>(simp only[go_sem,Qz,b,Bool.false_and]<;>try rfl)
 ·simp only[go_sem,b,zJ,e]
  (first | refine zd ?_ | refine ze ?_ (by rfl))<;>(simp only[go_sem,Qz,b,Bool.true_and]<;>try rfl)
end
set_option maxRecDepth 100000
def frA (s:Setup):SA:=⟨.sl 3 (s.ways.map ZM),.sl 4 (s.elements.map ZN),.sl 2 (s.classes.map qz),.sl 2 (s.gears.map qz),.sl 1 (s.rates.map zz),.sl 2 (s.tiers.map qz)⟩
theorem vE {h:List Ob} (s:Setup):SIn h s (frA s):=⟨⟨rfl,λ_=>rfl⟩,⟨rfl,λ_=>rfl⟩,⟨rfl,λ_=>rfl⟩,⟨rfl,λ_=>rfl⟩,⟨rfl,λ_=>rfl⟩,⟨rfl,λ_=>rfl⟩⟩
theorem J4a (l:List Way):((l.map ZM).all λr=>r.length==3 && r.all AV.one)=true:=by
 rw[List.all_eq_true];intro r a;obtain ⟨s,_,rfl⟩:=List.mem_map.1 a;rfl
theorem J5a (l:List Elt):((l.map ZN).all λr=>r.length==4 && r.all AV.one)=true:=by
 rw[List.all_eq_true];intro r a;obtain ⟨s,_,rfl⟩:=List.mem_map.1 a;rfl
theorem zSa (l:List zF):((l.map qz).all λr=>r.length==2 && r.all AV.one)=true:=by
 rw[List.all_eq_true];intro r a;obtain ⟨s,_,rfl⟩:=List.mem_map.1 a;rfl
theorem vna (l:List Int):((l.map zz).all λr=>r.length==1 && r.all AV.one)=true:=by
 rw[List.all_eq_true];intro r a;obtain ⟨s,_,rfl⟩:=List.mem_map.1 a;rfl
theorem JD {n:Nat}:∀l:List Way,zU n (l.map ZM)=true
 | []=>rfl
 | s::l=>by rw[List.map_cons,zU,JD l];rfl
theorem JE {n:Nat}:∀l:List Elt,zU n (l.map ZN)=true
 | []=>rfl
 | s::l=>by rw[List.map_cons,zU,JE l];rfl
theorem Zz {n:Nat}:∀l:List zF,zU n (l.map qz)=true
 | []=>rfl
 | s::l=>by rw[List.map_cons,zU,Zz l];rfl
theorem K1a {n:Nat} (s:Setup):(z6 s (frA s)).lt n=true:=by
 simp only[frA,AV.lt,zG,JD,JE,Zz,wg,Bool.and_self]
structure SFew (s:Setup):Prop where
 w:s.ways.length<1099511627776
 e:s.elements.length<1099511627776
 c:s.classes.length<1099511627776
 g:s.gears.length<1099511627776
 r:s.rates.length<1099511627776
 t:s.tiers.length<1099511627776
theorem WQa (h:List Ob) (s:Setup) (a:SA) (k:SIn h s a) (f:SFew s):
  ACalls Tryz.prog 71 [z6 s a] h λr h'=>r=z6 s (frA s)/\h'=h:=by
 refine zf Tryz.f71 [.cell 2 30] 28 rfl rfl rfl rfl rfl rfl (by decide) (⟨_,_,⟨rfl,rfl⟩,.refl⟩) λB=>?_
 simp only[go_sem,k.ones]
 refine zn rfl [] 0 [(0,0,[]),(3,0,[]),(6,0,[]),(1,0,[]),(4,0,[]),(7,0,[]),(2,0,[4,7]),(9,0,[]),(5,0,[7]),(8,0,[]),(10,0,[]),(11,0,[]),(12,0,[]),(13,0,[]),(14,0,[])] rfl (by decide) (by decide) ?_
 simp only[go_sem,k.ones]
 refine zc (kca _ a.w _ (k.app _).w (by rw[List.length_map];exact f.w) (J4a _) (JD _)) ?_
 rintro _ b ⟨rfl,rfl⟩
 simp only[go_sem,k.ones]
 refine zc (kda _ a.e _ (k.app _).e (by rw[List.length_map];exact f.e) (J5a _) (JE _)) ?_
 rintro _ b ⟨rfl,rfl⟩
 simp only[go_sem,k.ones]
 refine zc (Wy _ a.c _ (k.app _).c (by rw[List.length_map];exact f.c) (zSa _) (Zz _)) ?_
 rintro _ b ⟨rfl,rfl⟩
 simp only[go_sem,k.ones]
 refine zn rfl [] 0 [(0,0,[]),(3,0,[]),(6,0,[]),(1,0,[]),(4,0,[]),(7,0,[]),(2,0,[4,7]),(9,0,[]),(5,0,[7]),(8,0,[]),(10,0,[]),(11,0,[]),(12,0,[]),(13,0,[]),(14,0,[])] rfl (by decide) (by decide) ?_
 simp only[go_sem,k.ones]
 refine zc (Wy _ a.g _ (k.app _).g (by rw[List.length_map];exact f.g) (zSa _) (Zz _)) ?_
 rintro _ b ⟨rfl,rfl⟩
 simp only[go_sem,k.ones]
 refine zc (kea _ a.r _ (k.app _).r (by rw[List.length_map];exact f.r) (vna _) (wg _)) ?_
 rintro _ b ⟨rfl,rfl⟩
 simp only[go_sem,k.ones]
 refine zc (jwa _ a.t _ (k.app _).t (by rw[List.length_map];exact f.t) (zSa _) (Zz _)) ?_
 rintro _ b ⟨rfl,rfl⟩
 simp only[go_sem,k.ones]
 refine ⟨z6 s (frA s),by simp only[go_sem];rfl,.inr ⟨h,_,rfl,rfl,K1a s,.refl,rfl,rfl⟩⟩
abbrev xX (s:Setup) (a:SA) (x c:AV):List AV:=[i64 s.places,a.w,i64 s.pace.1,i64 s.pace.2,a.e,a.c,a.g,i64 s.allow,i64 s.unit,i64 s.cap,i64 s.paidBreak,i64 s.autoAfter,i64 s.autoBreak,
 i64 s.dayReg,i64 s.dayOver,i64 s.weekReg,i64 s.nightFrom,i64 s.nightTo,a.r,i64 s.diff,i64 s.least,i64 s.fault,a.t,x,c]
def xb:AV:= .v (.slice none 0 0)
def zS:Setup:=⟨0,[],(0,0),[],[],[],0,0,0,0,0,0,0,0,0,0,0,[],0,0,0,[]⟩
def zA:SA:=⟨xb,xb,xb,xb,xb,xb⟩
def wPa (s:Setup):AV:=if zw s then .tup [.ag (xX s (frA s) xb xb),i64 0] else .tup [.ag (xX zS zA xb xb),i64 70]
theorem K2a {s:Setup} (h:zw s=true):SFew s:=by
 simp only[zw,vQ,vR,vK,Bool.and_eq_true,decide_eq_true_eq] at h
 have d:∀a b c:Int,Jha a b c<=8->a<=8/\b<=8/\c<=8:=λa b c h=>by
  unfold Jha at h
  split at h<;>split at h<;>omega
 have d:=d _ _ _ h.1.1.2.2
 exact ⟨by omega,by omega,by omega,by omega,by omega,by omega⟩
theorem Y4a (h:List Ob) (s:Setup) (a:SA) (k:SIn h s a) (f:SFit s):
  ACalls Tryz.prog 27 [z6 s a] h λr h'=>r=wPa s/\h'=h:=by
 refine zf Tryz.f27 [.cell 2 64,.tmp 3] 11 rfl rfl rfl rfl rfl rfl (by decide) (⟨_,_,⟨rfl,rfl⟩,.refl⟩) λB=>?_
 simp only[go_sem,k.ones]
 refine zc (c16 _ s a (k.app _) f) ?_
 rintro _ d ⟨rfl,rfl⟩
 cases b:zw s
 ·have c:wPa s= .tup [.ag (xX zS zA xb xb),i64 70]:=by unfold wPa;rw[b];rfl
  simp only[go_sem,b,zJ,Bool.not_false]
  refine ⟨.tup [.ag (xX zS zA xb xb),i64 70],by simp only[go_sem];rfl,.inr ⟨h,_,rfl,rfl,rfl,.refl,c.symm,rfl⟩⟩
 ·have c:wPa s= .tup [.ag (xX s (frA s) xb xb),i64 0]:=by unfold wPa;rw[if_pos b]
  simp only[go_sem,b,zJ,Bool.not_true,k.ones]
  refine zc (WQa _ s a (k.app _) (K2a b)) ?_
  rintro _ d ⟨rfl,rfl⟩
  simp only[go_sem,(vE (h:=h) s).ones]
  refine ⟨.tup [.ag (xX s (frA s) xb xb),i64 0],by simp only[go_sem];rfl,.inr ⟨h,_,rfl,rfl,?_,.refl,c.symm,rfl⟩⟩
  simp only[frA,xb,AV.lt,zG,JD,JE,Zz,wg,Bool.and_self]
set_option maxRecDepth 100000
theorem yX (q:List Int × Bool) (a b:List Int):j6 q (a++b)=j6 (j6 q a) b:=by unfold j6;rw[List.foldl_append]
structure PnH (h:List Ob) (i:Nat) (Q:List Int × Bool) (H:List Ob):Prop where
 eq:∃z L,Sb z Q.1/\H=h.set i (.box 99 [z,bl Q.2])++L/\NoRes L
theorem PnH.app {h:List Ob} {i:Nat} {Q:List Int × Bool} {H:List Ob} (k:PnH h i Q H) {M:List Ob} (a:NoRes M):PnH h i Q (H++M):=by
 obtain ⟨z,L,k1,k2,k3⟩:=k.eq
 exact ⟨z,L++M,k1,by rw[k2,List.append_assoc],k3.app a⟩
theorem PnH.get {h:List Ob} {i:Nat} {Q:List Int × Bool} {H:List Ob} (k:PnH h i Q H) {m:Nat} {o:Ob} (b:m≠i) (a:h[m]? =some o):H[m]? =some o:=by
 obtain ⟨z,L,k1,k2,k3⟩:=k.eq
 rw[k2]
 exact zb (by rw[List.getElem?_set_ne (Ne.symm b)];exact a)
theorem WD {h H:List Ob} {i:Nat} {Q:List Int × Bool} (k:PnH h i Q H) (a:i<h.length) (x:AV) (b:List (AV × Int)) (f:SlOf H x 1 (b.map λp=>[p.1])) (n:∀p∈b,WPa H i p.1 p.2) (q:Q.1.length<536870912) (l:b.length<1048576):
  ACalls Tryz.prog 41 [.ptr i 0,x] H λr h'=>r= .tup []/\PnH h i (j6 Q (b.map (·.2))) h'/\∀m o,m≠i->H[m]? =some o->h'[m]? =some o:=by
 obtain ⟨z,L,k1,k2,k3⟩:=k.eq
 have c:H[i]? =some (.box 99 [z,bl Q.2]):=by rw[k2];exact zb (List.getElem?_set_self a)
 refine (Y3a H i z Q.1 Q.2 x b c k1 f n q l).mono ?_
 rintro r h' ⟨rfl,j,d,rfl⟩
 refine ⟨rfl,⟨j,L,d,?_,k3⟩,λm o g e=>by rw[List.getElem?_set_ne (Ne.symm g)];exact e⟩
 rw[k2,List.set_append_left _ _ (by rw[List.length_set];exact a),List.set_set]
def JF (R:RowV):List Int:=[R.tot 0,R.tot 1,R.tot 2,R.tot 3,R.tot 4,R.tot 5,R.tot 6]
def Jd (R:RowV):List Int:=[R.pays 0,R.pays 1,R.pays 2,R.pays 3,R.pays 4,R.pays 5,R.pays 6]
def wY (R:RowV):List Int:=[R.worker,R.week,R.err]++JF R++Jd R++[R.earned.1,R.earned.2,R.perf.1,R.perf.2,R.elig,wr (R.tier+1),R.extra,R.supp,R.total]
theorem K3a (R:RowV) (a:AV) {k:Nat} (b:k<7):nth (xM R a) (3+k)=i64 (R.tot k)/\(JF R)[k]? =some (R.tot k):=by
 have:k=0∨k=1∨k=2∨k=3∨k=4∨k=5∨k=6:=by omega
 rcases this with rfl | rfl | rfl | rfl | rfl | rfl | rfl<;>exact ⟨rfl,rfl⟩
theorem J6a (R:RowV) (a:AV) {k:Nat} (b:k<7):nth (xM R a) (10+k)=i64 (R.pays k)/\(Jd R)[k]? =some (R.pays k):=by
 have:k=0∨k=1∨k=2∨k=3∨k=4∨k=5∨k=6:=by omega
 rcases this with rfl | rfl | rfl | rfl | rfl | rfl | rfl<;>exact ⟨rfl,rfl⟩
theorem YV {l:List Int} {k:Nat} {n:Int} (h:l[k]? =some n):l.take (k+1)=l.take k++[n]:=by
 obtain ⟨a,b⟩:=List.getElem?_eq_some_iff.1 h
 rw[<-b];exact (List.take_append_getElem a).symm
theorem K4a (h:List Ob) (i j:Nat) (z:AV) (Q:List Int × Bool) (R:RowV) (G:AV) (a:j≠i) (K:h[i]? =some (.box 99 [z,bl Q.2])) (X:Sb z Q.1) (y:h[j]? =some (.box 45 (xM R G))) (P:Fit R.tier/\Fit (R.tier+1)) (Y:AV.one G=true) (hQ:Q.1.length<268435456):
  ACalls Tryz.prog 45 [.ptr j 0,.fn (.func 41) [.ptr i 0] []] h λr h'=>r= .tup []/\PnH h i (j6 Q (wY R)) h':=by
 have o:=(List.getElem?_eq_some_iff.1 K).1
 have hex:∃r h',(r=AV.tup []/\PnH h i (j6 Q (wY R)) h')/\ResK h h':=
  ⟨_,h.set i (.box 99 [.sl 1 ((j6 Q (wY R)).1.map je),bl (j6 Q (wY R)).2]),⟨rfl,_,[],.inl rfl,by simp,qh⟩,zC K rfl⟩
 have base:PnH h i Q h:=⟨z,[],X,by rw[List.append_nil];exact (zT K).symm,qh⟩
 have x:=λns=>Qx ns Q
 refine zf Tryz.f45 [] 90 rfl rfl rfl rfl rfl rfl (by decide) (hex) λB=>?_
 simp only[go_sem,y]
 refine zn rfl [.res] 1 [(0,0,[]),(1,0,[]),(2,0,[]),(3,0,[]),(4,0,[]),(5,0,[]),(6,0,[]),(7,0,[]),(8,0,[])] rfl (by decide) (by decide) ?_
 simp only[go_sem]
 have k0:=base.app (M:=[.box 3 [i64 R.err],.row 101 1 [[.ptr j 0],[.ptr j 1],[.ptr h.length 0]] 0]) (zg rfl (zi rfl))
 have q:=k0.get a y
 have v:(h++[Ob.box 3 [i64 R.err],.row 101 1 [[.ptr j 0],[.ptr j 1],[.ptr h.length 0]] 0])[h.length]? =some (.box 3 [i64 R.err]):=by rw[zo rfl];rfl
 refine zc (WD k0 o (.tl (h.length+1) 0) [(.ptr j 0,R.worker),(.ptr j 1,R.week),(.ptr h.length 0,R.err)] ⟨by rw[zX,zm (k:=1) rfl];rfl,λ_=>by rw[qE,zm (k:=1) rfl];rfl⟩ (λp d=>by
  rcases List.mem_cons.1 d with rfl | d
  ·exact ⟨j,0,_,_,rfl,a,q,by show 0<27;decide,rfl⟩
  rcases List.mem_cons.1 d with rfl | d
  ·exact ⟨j,1,_,_,rfl,a,q,by show 1<27;decide,rfl⟩
  rw[List.mem_singleton] at d
  subst d
  exact ⟨h.length,0,_,_,rfl,by omega,v,by show 0<1;decide,rfl⟩) (by omega) (by show 3<1048576;decide)) ?_
 rintro _ H1 ⟨rfl,k1,N⟩
 have b:=N j _ a q
 have C:=N h.length _ (by omega) v
 simp only[go_sem,b,C]
 rw[zT b]
 refine zj (by decide) (λm T H=>∃n:Nat,n<=7/\PnH h i (j6 Q ([R.worker,R.week,R.err]++(JF R).take n)) H/\T 0= .ptr j 0/\T 1= .fn (.func 41) [.ptr i 0] []/\T 25=i64 n/\m=7 - n) 7
  ⟨0,by omega,k1,by simp only[go_sem],by simp only[go_sem],by (simp only[go_sem]<;>rfl),rfl⟩ ?_
 clear k0 k1 q b v C N
 rintro m T H ⟨n,Z,l,t0,t1,t25,rfl⟩
 simp only[go_sem,t25]
 refine ways (λe=>?_) (λe=>?_)
 ·have t:(n:Int)<7:=of_decide_eq_true e
  have c:n<7:=by omega
  have g:=l.get a y
  obtain ⟨I,L⟩:=K3a R G c
  simp only[go_sem,t0,t1,t25,t,c,Nat.mul_one,Int.toNat_natCast,Int.natCast_nonneg]
  have f:=l.app (M:=[.row 101 1 [[.ptr j (3+n)]] 0]) (zi rfl)
  have E:=x ([R.worker,R.week,R.err]++(JF R).take n)
  have s:([R.worker,R.week,R.err]++(JF R).take n).length<=10:=by simp[JF];omega
  refine zc (WD f o (.tl H.length 0) [(.ptr j (3+n),R.tot n)] ⟨by rw[zX,zo rfl];rfl,λ_=>by rw[qE,zo rfl];rfl⟩ (λp d=>by
   rw[List.mem_singleton] at d
   subst d
   exact ⟨j,3+n,_,_,rfl,a,zb g,by show 3+n<27;omega,I⟩) (by omega) (by show 1<1048576;decide)) ?_
  rintro _ H2 ⟨rfl,k2,F⟩
  rw[<-yX] at k2
  simp only[go_sem,t25]
  exact ⟨7 - (n+1),by omega,n+1,by omega,by rw[YV L];simpa using k2,t0,t1,zx (by omega) rfl,rfl⟩
 ·have O:¬ (n:Int)<7:=of_decide_eq_false e
  have w:n=7:=by omega
  subst w
  simp only[go_sem]
  refine zj (by decide) (λm T H=>∃n:Nat,n<=7/\PnH h i (j6 Q ([R.worker,R.week,R.err]++JF R++(Jd R).take n)) H/\T 0= .ptr j 0/\T 1= .fn (.func 41) [.ptr i 0] []/\T 37=i64 n/\m=7 - n) 7
   ⟨0,by omega,by simpa [JF] using l,by simp only[go_sem,t0],by simp only[go_sem,t1],by (simp only[go_sem]<;>rfl),rfl⟩ ?_
  clear l t0 t1 t25
  rintro m T H ⟨n,Z,l,t0,t1,u,rfl⟩
  simp only[go_sem,u]
  refine ways (λe=>?_) (λe=>?_)
  ·have t:(n:Int)<7:=of_decide_eq_true e
   have c:n<7:=by omega
   have g:=l.get a y
   obtain ⟨I,L⟩:=J6a R G c
   simp only[go_sem,t0,t1,u,t,c,Nat.mul_one,Int.toNat_natCast,Int.natCast_nonneg]
   have f:=l.app (M:=[.row 101 1 [[.ptr j (10+n)]] 0]) (zi rfl)
   have E:=x ([R.worker,R.week,R.err]++JF R++(Jd R).take n)
   have s:([R.worker,R.week,R.err]++JF R++(Jd R).take n).length<=17:=by simp[JF,Jd];omega
   refine zc (WD f o (.tl H.length 0) [(.ptr j (10+n),R.pays n)] ⟨by rw[zX,zo rfl];rfl,λ_=>by rw[qE,zo rfl];rfl⟩ (λp d=>by
    rw[List.mem_singleton] at d
    subst d
    exact ⟨j,10+n,_,_,rfl,a,zb g,by show 10+n<27;omega,I⟩) (by omega) (by show 1<1048576;decide)) ?_
   rintro _ H2 ⟨rfl,k2,F⟩
   rw[<-yX] at k2
   simp only[go_sem,u]
   exact ⟨7 - (n+1),by omega,n+1,by omega,by rw[YV L];simpa using k2,t0,t1,zx (by omega) rfl,rfl⟩
  ·have O:¬ (n:Int)<7:=of_decide_eq_false e
   have w:n=7:=by omega
   subst w
   have g:=l.get a y
   simp only[go_sem,t0,g]
   refine zn rfl [.res] 1 [(0,0,[]),(1,0,[]),(2,0,[]),(3,0,[]),(4,0,[]),(5,0,[]),(6,0,[]),(7,0,[]),(8,0,[]),(9,0,[]),(10,0,[]),(11,0,[]),(12,0,[]),(13,0,[]),(14,0,[]),(15,0,[]),(16,0,[]),(17,0,[]),(18,0,[]),(19,0,[]),(20,0,[]),(21,0,[]),(22,0,[]),(23,0,[]),(24,0,[]),(25,0,[]),(26,0,[]),(27,0,[]),(28,0,[]),(29,0,[]),(30,0,[])] rfl (by decide) (by decide) ?_
   simp only[go_sem,t0,t1]
   have S:IntKind.wrap .i64 (R.tier+1)=R.tier+1:=zI (n:=R.tier+1) P.2
   have f:=l.app (M:=[.box 3 [i64 (wr (R.tier+1))],.row 101 1 [[.ptr j 17],[.ptr j 18],[.ptr j 19],[.ptr j 20],[.ptr j 21],[.ptr H.length 0],[.ptr j 23],[.ptr j 24],[.ptr j 25]] 0]) (zg rfl (zi rfl))
   have V:i<H.length:=by
    obtain ⟨z0,L0,_,W,_⟩:=l.eq
    rw[W,List.length_append,List.length_set];omega
   have b:=f.get a y
   have A:(H++[Ob.box 3 [i64 (wr (R.tier+1))],.row 101 1 [[.ptr j 17],[.ptr j 18],[.ptr j 19],[.ptr j 20],[.ptr j 21],[.ptr H.length 0],[.ptr j 23],[.ptr j 24],[.ptr j 25]] 0])[H.length]? =some (.box 3 [i64 (wr (R.tier+1))]):=by rw[zo rfl];rfl
   have E:=x ([R.worker,R.week,R.err]++JF R++(Jd R).take 7)
   have s:([R.worker,R.week,R.err]++JF R++(Jd R).take 7).length<=17:=by simp[JF,Jd]
   refine zc (WD f o (.tl (H.length+1) 0) [(.ptr j 17,R.earned.1),(.ptr j 18,R.earned.2),(.ptr j 19,R.perf.1),(.ptr j 20,R.perf.2),(.ptr j 21,R.elig),(.ptr H.length 0,wr (R.tier+1)),(.ptr j 23,R.extra),(.ptr j 24,R.supp),(.ptr j 25,R.total)]
    ⟨by rw[zX,zm (k:=1) rfl];rfl,λ_=>by rw[qE,zm (k:=1) rfl];rfl⟩ (λp d=>by
    simp only[List.mem_cons,List.not_mem_nil,or_false] at d
    rcases d with rfl | rfl | rfl | rfl | rfl | rfl | rfl | rfl | rfl
    ·exact ⟨j,17,_,_,rfl,a,b,by show 17<27;decide,rfl⟩
    ·exact ⟨j,18,_,_,rfl,a,b,by show 18<27;decide,rfl⟩
    ·exact ⟨j,19,_,_,rfl,a,b,by show 19<27;decide,rfl⟩
    ·exact ⟨j,20,_,_,rfl,a,b,by show 20<27;decide,rfl⟩
    ·exact ⟨j,21,_,_,rfl,a,b,by show 21<27;decide,rfl⟩
    ·exact ⟨H.length,0,_,_,rfl,by omega,A,by show 0<1;decide,rfl⟩
    ·exact ⟨j,23,_,_,rfl,a,b,by show 23<27;decide,rfl⟩
    ·exact ⟨j,24,_,_,rfl,a,b,by show 24<27;decide,rfl⟩
    ·exact ⟨j,25,_,_,rfl,a,b,by show 25<27;decide,rfl⟩) (by omega) (by show 9<1048576;decide)) ?_
   rintro _ H2 ⟨rfl,k2,F⟩
   have D:=F j _ a b
   have J:=F H.length _ (by omega) A
   have U:IntKind.wrap .i64 (wr (R.tier+1) - 1)=R.tier:=by
    rw[show wr (R.tier+1)=R.tier+1 from S]
    exact (zI (n:=R.tier+1 - 1) (by have:=P.1;unfold Fit at *; omega)).trans (by omega)
   rw[<-yX] at k2
   simp only[go_sem,t0,D,J,U]
   rw[zT D]
   exact ⟨_,rfl,.inl ⟨rfl,by simpa [wY,Jd,JF] using k2⟩⟩
set_option maxRecDepth 100000
theorem PnH.base {h M:List Ob} {i:Nat} {Q:List Int × Bool} {H:List Ob} (k:PnH (h++M) i Q H) (b:i<h.length) (a:NoRes M):PnH h i Q H:=by
 obtain ⟨z,L,k1,k2,k3⟩:=k.eq
 exact ⟨z,M++L,k1,by rw[k2,List.set_append_left _ _ b,List.append_assoc],a.app k3⟩
theorem PnH.sl {h:List Ob} {i:Nat} {Q:List Int × Bool} {H:List Ob} (k:PnH h i Q H) {t:TypeId} {cs:List AV} (b:h[i]? =some (.box t cs)) {x:AV} {e:Nat} {rows:List (List AV)} (a:SlOf h x e rows):SlOf H x e rows:=by
 obtain ⟨z,L,k1,k2,k3⟩:=k.eq
 rw[k2]
 exact (a.keep (.setB b)).app _
def Je (F:List Flg):List Int:=F.flatMap λf=>[f.id,f.kind]
theorem Ke:∀F:List Flg,(Je F).length=2*F.length
 | []=>rfl
 | f::F=>by
   have:=Ke F
   unfold Je at*
   rw[List.flatMap_cons,List.length_append,List.length_cons,this];simp;omega
theorem kka {F:List Flg} {n:Nat} (h:n<F.length):Je (F.take (n+1))=Je (F.take n)++[(F[n]).id,(F[n]).kind]:=by
 unfold Je
 rw[show F.take (n+1)=F.take n++[F[n]] from (List.take_append_getElem h).symm,List.flatMap_append];simp
def vf (R:RowV) (F:List Flg):List Int:=wY R++[(F.length:Int)]++Je F
theorem JG (R:RowV):(wY R).length=26:=rfl
theorem voa (h:List Ob) (i:Nat) (z:AV) (Q:List Int × Bool) (R:RowV) (d:AV) (F:List Flg) (s:h[i]? =some (.box 99 [z,bl Q.2])) (hz:Sb z Q.1) (ht:Fit R.tier/\Fit (R.tier+1)) (O:SlOf h d 2 (F.map xv)) (hQ:Q.1.length<134217728) (ζ:F.length<524288):
  ACalls Tryz.prog 42 [.ptr i 0,.ag (xM R d)] h λr h'=>r= .tup []/\PnH h i (j6 Q (vf R F)) h':=by
 have c:=(List.getElem?_eq_some_iff.1 s).1
 have t:=O.one
 have hex:∃r h',(r=AV.tup []/\PnH h i (j6 Q (vf R F)) h')/\ResK h h':=
  ⟨_,h.set i (.box 99 [.sl 1 ((j6 Q (vf R F)).1.map je),bl (j6 Q (vf R F)).2]),⟨rfl,_,[],.inl rfl,by simp,qh⟩,zC s rfl⟩
 have E:=λns=>Qx ns Q
 refine zf Tryz.f42 [] 29 rfl rfl rfl rfl rfl rfl (by decide) (hex) λB=>?_
 simp only[go_sem,t]
 have P:(h++[Ob.box 45 (xM R d)])[i]? =some (.box 99 [z,bl Q.2]):=zb s
 have K:(h++[Ob.box 45 (xM R d)])[h.length]? =some (.box 45 (xM R d)):=by rw[zo rfl];rfl
 have j:h.length≠i:=by omega
 refine zc (K4a _ i h.length z Q R d j P hz K ht t (by omega)) ?_
 rintro _ b ⟨rfl,k1⟩
 have q:=k1.get j K
 have x:zq b d=some (F.map xv):=by
  obtain ⟨z0,L0,_,y,_⟩:=k1.eq
  rw[y,List.set_append_left _ _ c,List.append_assoc]
  exact ((O.keep (.setB s)).app _).rows
 simp only[go_sem,q,x,List.length_map]
 have Y:=k1.base c (zi rfl)
 have D:=Y.app (M:=[.box 3 [i64 F.length],.row 101 1 [[.ptr b.length 0]] 0]) (zg rfl (zi rfl))
 have N:=E (wY R)
 rw[JG] at N
 have η:i<b.length:=by
  obtain ⟨z0,L0,_,y,_⟩:=Y.eq
  rw[y,List.length_append,List.length_set];omega
 have a:(b++[Ob.box 3 [i64 F.length],.row 101 1 [[.ptr b.length 0]] 0])[b.length]? =some (.box 3 [i64 F.length]):=by rw[zo rfl];rfl
 have w:(b++[Ob.box 3 [i64 F.length],.row 101 1 [[.ptr b.length 0]] 0])[h.length]? =some (.box 45 (xM R d)):=zb q
 refine zc (WD D c (.tl (b.length+1) 0) [(.ptr b.length 0,(F.length:Int))] ⟨by rw[zX,zm (k:=1) rfl];rfl,λ_=>by rw[qE,zm (k:=1) rfl];rfl⟩ (λp A=>by
  rw[List.mem_singleton] at A
  subst A
  exact ⟨b.length,0,_,_,rfl,by omega,a,by show 0<1;decide,rfl⟩) (by omega) (by show 1<1048576;decide)) ?_
 rintro _ H2 ⟨rfl,k2,Z⟩
 rw[<-yX] at k2
 have L:=Z h.length _ j w
 have J:=(k2.sl s O).rows
 simp only[go_sem,L,J,List.length_map]
 refine zj (by decide) (λm T H=>∃n:Nat,n<=F.length/\PnH h i (j6 Q (wY R++[(F.length:Int)]++Je (F.take n))) H/\T 0= .ptr i 0/\T 17=d/\T 18=i64 F.length/\T 19=i64 n/\m=F.length - n) F.length
  ⟨0,by omega,by simpa [Je] using k2,by simp only[go_sem],by simp only[go_sem],by (simp only[go_sem]<;>rfl),by (simp only[go_sem]<;>rfl),rfl⟩ ?_
 clear k1 k2 Y D q w L J x a Z
 rintro m T H ⟨n,hn,v,t0,C,G,o,rfl⟩
 simp only[go_sem,G,o]
 refine ways (λe=>?_) (λe=>?_)
 ·have l:=dlt e
  have f:=via l
  have X:(n:Int)<F.length:=by omega
  have u:=v.sl s O
  have V:=u.at (i:=n) (by rw[List.length_map];exact l)
  have U:=u.rows
  have I:=kka l
  obtain ⟨g,hg⟩:∃g,g=F[n]:=⟨_,rfl⟩
  rw[<-hg] at f I
  simp only[go_sem,t0,C,o,V,U,f,X,List.length_map,Int.toNat_natCast,Int.natCast_nonneg]
  have δ:i<H.length:=by
   obtain ⟨z0,L0,_,y,_⟩:=v.eq
   rw[y,List.length_append,List.length_set];omega
  have S:=v.app (M:=[.box 97 [i64 g.id,i64 g.kind],.row 101 1 [[.ptr H.length 0],[.ptr H.length 1]] 0]) (zg rfl (zi rfl))
  have a:(H++[Ob.box 97 [i64 g.id,i64 g.kind],.row 101 1 [[.ptr H.length 0],[.ptr H.length 1]] 0])[H.length]? =some (.box 97 [i64 g.id,i64 g.kind]):=by rw[zo rfl];rfl
  have N:=E (wY R++[(F.length:Int)]++Je (F.take n))
  have α:(wY R++[(F.length:Int)]++Je (F.take n)).length<=27+2*F.length:=by
   rw[List.length_append,List.length_append,JG,Ke,List.length_take]
   show 26+1+_<=_
   omega
  refine zc (WD S c (.tl (H.length+1) 0) [(.ptr H.length 0,g.id),(.ptr H.length 1,g.kind)] ⟨by rw[zX,zm (k:=1) rfl];rfl,λ_=>by rw[qE,zm (k:=1) rfl];rfl⟩ (λp A=>by
   simp only[List.mem_cons,List.not_mem_nil,or_false] at A
   rcases A with rfl | rfl
   ·exact ⟨H.length,0,_,_,rfl,by omega,a,by show 0<2;decide,rfl⟩
   ·exact ⟨H.length,1,_,_,rfl,by omega,a,by show 1<2;decide,rfl⟩) (by omega) (by show 2<1048576;decide)) ?_
  rintro _ H3 ⟨rfl,k3,g3⟩
  rw[<-yX] at k3
  simp only[go_sem,o]
  exact ⟨F.length - (n+1),by omega,n+1,by omega,by rw[I];simpa using k3,t0,C,G,zx (by omega) rfl,rfl⟩
 ·have ι:=qU e
  have W:n=F.length:=by omega
  subst W
  rw[List.take_length] at v
  simp only[go_sem]
  exact ⟨_,rfl,.inl ⟨rfl,v⟩⟩
set_option maxRecDepth 100000
def JH (R:RowV) (F:List Flg):Bool:= !(decide (R.err>100000) || decide ((F.length:Int)>200)) && (j6 ([],true) (vf R F)).2
theorem K5a (h:List Ob) (R:RowV) (b:AV) (F:List Flg) (m:Fit R.tier/\Fit (R.tier+1)) (f:SlOf h b 2 (F.map xv)) (g:F.length<524288):
  ACalls Tryz.prog 20 [.ag (xM R b)] h λr h'=>r=bl (JH R F)/\h'=h:=by
 have e:=f.one
 have c:∀M,zq (h++M) b=some (F.map xv):=λM=>(f.app M).rows
 refine zf Tryz.f20 [.tmp 2] 18 rfl rfl rfl rfl rfl rfl (by decide) (⟨_,_,⟨rfl,rfl⟩,.refl⟩) λB=>?_
 simp only[go_sem,e]
 cases a:decide (R.err>100000)
 ·cases d:decide ((F.length:Int)>200)
  ·simp only[go_sem,a,d,zJ,c,List.length_map]
   have l:(h++[Ob.box 45 (xM R b),.box 99 [.v (.slice none 0 0),bl true]])[h.length+1]? =some (.box 99 [.v (.slice none 0 0),bl true]):=by rw[zm (k:=1) rfl];rfl
   refine zc (voa _ (h.length+1) (.v (.slice none 0 0)) ([],true) R b F l (.inr ⟨rfl,rfl⟩) m (f.app _) (by decide) g) ?_
   rintro _ n ⟨rfl,k1⟩
   obtain ⟨z,L,o,i,z3⟩:=k1.eq
   have j:n[h.length+1]? =some (.box 99 [z,bl (j6 ([],true) (vf R F)).2]):=by rw[i];exact zb (List.getElem?_set_self (by simp))
   simp only[go_sem,j]
   refine ⟨bl (j6 ([],true) (vf R F)).2,by simp only[go_sem],.inr ⟨h,[.box 45 (xM R b),.box 99 [z,bl (j6 ([],true) (vf R F)).2]]++L,?_,rfl,rfl,.refl,?_,rfl⟩⟩
   ·rw[i,List.set_append_right _ _ (by omega),show h.length+1 - h.length=1 by omega,List.append_assoc];rfl
   ·unfold JH;rw[a,d];rfl
  ·simp only[go_sem,a,d,zJ,c,List.length_map]
   (first | refine zd ?_ | refine ze ?_ (by rfl))<;>(simp only[go_sem,JH,a,d,Bool.or_true,Bool.not_true,Bool.false_and]<;>try rfl)
 ·simp only[go_sem,a,zJ]
  (first | refine zd ?_ | refine ze ?_ (by rfl))<;>(simp only[go_sem,JH,a,Bool.true_or,Bool.not_true,Bool.false_and]<;>try rfl)
def ZJ (W:List (RowV × List Flg)):List Int:=W.flatMap λq=>vf q.1 q.2
def okW (W:List (RowV × List Flg)):Bool:=W.all λq=>JH q.1 q.2
def kw (W:List (RowV × List Flg)):List Int × Int:=if okW W then ((j6 ([],true) ([(W.length:Int)]++ZJ W)).1,0) else ([],200)
abbrev RwA:=RowV × AV × List Flg
def xc (W:List RwA):List (RowV × List Flg):=W.map λq=>(q.1,q.2.2)
theorem YW:∀W:List (RowV × List Flg),okW W=true->(ZJ W).length<=427*W.length
 | [],_=>by simp[ZJ]
 | q::W,h=>by
   unfold okW at h
   rw[List.all_cons,Bool.and_eq_true] at h
   have b:=YW W h.2
   have c:(vf q.1 q.2).length<=427:=by
    have a:=h.1
    unfold JH at a
    simp only[Bool.and_eq_true,Bool.not_eq_true',Bool.or_eq_false_iff,decide_eq_false_iff_not] at a
    unfold vf
    rw[List.length_append,List.length_append,JG,Ke]
    show 26+1+_<=_
    omega
   unfold ZJ at*
   rw[List.flatMap_cons,List.length_append,List.length_cons]
   omega
theorem PnH.trans {h H d:List Ob} {i:Nat} {Q Q':List Int × Bool} (k:PnH h i Q H) (k':PnH H i Q' d) (e:i<h.length):PnH h i Q' d:=by
 obtain ⟨z,L,k1,k2,k3⟩:=k.eq
 obtain ⟨f,g,c,b,a⟩:=k'.eq
 exact ⟨f,L++g,c,by rw[b,k2,List.set_append_left _ _ (by rw[List.length_set];exact e),List.set_set,List.append_assoc],k3.app a⟩
theorem kla {W:List RwA} {n:Nat} (h:n<W.length):xc (W.take (n+1))=xc (W.take n)++[((W[n]).1,(W[n]).2.2)]:=by
 unfold xc
 rw[show W.take (n+1)=W.take n++[W[n]] from (List.take_append_getElem h).symm,List.map_append];rfl
theorem PnH.over {h b H:List Ob} {o:Ob} {Q:List Int × Bool} (a:b=h++[o]) (k:PnH b h.length Q H):∃L,H=h++L:=by
 obtain ⟨z,L,k1,k2,k3⟩:=k.eq
 subst a
 refine ⟨[.box 99 [z,bl Q.2]]++L,?_⟩
 rw[k2,List.set_append_right _ _ (Nat.le_refl _),Nat.sub_self,List.append_assoc]
 rfl
theorem J7a (h:List Ob) (x:AV) (W:List RwA) (hx:SlOf h x 27 (W.map λq=>xM q.1 q.2.1)) (hF:∀q∈W,SlOf h q.2.1 2 (q.2.2.map xv)/\(Fit q.1.tier/\Fit (q.1.tier+1))/\q.2.2.length<524288) (hl:W.length<4096):
  ACalls Tryz.prog 16 [x] h λr h'=>(∃z,Sb z (kw (xc W)).1/\r= .tup [z,i64 (kw (xc W)).2])/\h'=h:=by
 have hex:∃r h',((∃z,Sb z (kw (xc W)).1/\r=AV.tup [z,i64 (kw (xc W)).2])/\h'=h)/\ResK h h':=⟨_,_,⟨⟨_,.inl rfl,rfl⟩,rfl⟩,.refl⟩
 have χ:=hx.rows
 have ι:∀M,zq (h++M) x=some (W.map λq=>xM q.1 q.2.1):=λM=>(hx.app M).rows
 refine zf Tryz.f16 [.tmp 2,.tmp 3] 27 rfl rfl rfl rfl rfl rfl (by decide) (hex) λB=>?_
 simp only[go_sem,ι,List.length_map]
 obtain ⟨j,a⟩:∃j,j=h++[Ob.box 99 [.v (.slice none 0 0),bl true]]:=⟨_,rfl⟩
 have Y:j[h.length]? =some (.box 99 [.v (.slice none 0 0),bl true]):=by rw[a,zo rfl];rfl
 have o:h.length<j.length:=by rw[a];simp
 have base:PnH j h.length ([],true) j:=⟨_,[],.inr ⟨rfl,rfl⟩,by rw[List.append_nil];exact (zT Y).symm,qh⟩
 have A:=base.app (M:=[.box 3 [i64 W.length],.row 101 1 [[.ptr (h.length+1) 0]] 0]) (zg rfl (zi rfl))
 have hE:j++[Ob.box 3 [i64 W.length],.row 101 1 [[.ptr (h.length+1) 0]] 0]=h++[Ob.box 99 [.v (.slice none 0 0),bl true],.box 3 [i64 W.length],.row 101 1 [[.ptr (h.length+1) 0]] 0]:=by rw[a];simp
 rw[hE] at A
 refine zc (WD A o (.tl (h.length+2) 0) [(.ptr (h.length+1) 0,(W.length:Int))] ⟨by rw[zX,zm (k:=2) rfl];rfl,λ_=>by rw[qE,zm (k:=2) rfl];rfl⟩ (λp hp=>by
  rw[List.mem_singleton] at hp
  subst hp
  exact ⟨h.length+1,0,_,_,rfl,by omega,by rw[zm (k:=1) rfl];rfl,by show 0<1;decide,rfl⟩) (by decide) (by show 1<1048576;decide)) ?_
 rintro _ H2 ⟨rfl,k2,g2⟩
 have K:SlOf j x 27 (W.map λq=>xM q.1 q.2.1):=by rw[a];exact hx.app _
 have Z:∀q∈W,SlOf j q.2.1 2 (q.2.2.map xv):=λq hq=>by rw[a];exact (hF q hq).1.app _
 have U:=(k2.sl Y K).rows
 simp only[go_sem,U,List.length_map]
 refine zj (by decide) (λm T H=>∃n:Nat,n<=W.length/\okW (xc (W.take n))=true/\PnH j h.length (j6 ([],true) ([(W.length:Int)]++ZJ (xc (W.take n)))) H/\T 4= .ptr h.length 0/\T 13=x/\T 14=i64 W.length/\T 15=i64 n/\m=W.length - n) W.length
  ⟨0,by omega,rfl,by simpa [ZJ,xc] using k2,by simp only[go_sem],by simp only[go_sem],by (simp only[go_sem]<;>rfl),by (simp only[go_sem]<;>rfl),rfl⟩ ?_
 clear k2 A g2 U
 rintro m T H ⟨n,hn,d,t,t4,I,P,w,rfl⟩
 simp only[go_sem,P,w]
 refine ways (λe=>?_) (λe=>?_)
 ·have l:=dlt e
  have f:(W.map λq=>xM q.1 q.2.1)[n]? =some (xM (W[n]).1 (W[n]).2.1):=by rw[List.getElem?_map,List.getElem?_eq_getElem l];rfl
  have θ:(n:Int)<W.length:=by omega
  have G:=t.sl Y K
  have ζ:=G.at (i:=n) (by rw[List.length_map];exact l)
  have ε:=G.rows
  have s:=kla l
  have b:=List.getElem_mem l
  obtain ⟨⟨R,D,F⟩,hg⟩:∃g,g=W[n]:=⟨_,rfl⟩
  rw[<-hg] at f s b
  obtain ⟨q1,q2,q3⟩:=hF _ b
  have u:=Z _ b
  simp only at f s q1 q2 q3 u
  have c:=t.sl Y u
  have E:=c.one
  simp only[go_sem,t4,I,w,ζ,ε,f,θ,E,List.length_map,Int.toNat_natCast,Int.natCast_nonneg]
  refine zc (K5a _ R D F q2 (c.app _) q3) ?_
  rintro _ H3 ⟨rfl,e3⟩
  rw[e3]
  cases X:JH R F
  ·have S:okW (xc W)=false:=by
    unfold okW
    rw[List.all_eq_false]
    exact ⟨(R,F),List.mem_map.2 ⟨(R,D,F),b,rfl⟩,by simp[X]⟩
   have O:kw (xc W)=([],200):=by unfold kw;rw[S];rfl
   simp only[go_sem,X,zJ,Bool.not_false]
   obtain ⟨L',C⟩:=(t.app (M:=[Ob.box 45 (xM R D)]) (zi rfl)).over a
   exact ⟨.tup [.v (.slice none 0 0),i64 200],rfl,.inr ⟨h,L',C,rfl,rfl,.refl,⟨_,by rw[O];exact .inr ⟨rfl,rfl⟩,by rw[O]⟩,rfl⟩⟩
  ·have J:okW (xc (W.take (n+1)))=true:=by
    rw[s];unfold okW at d ⊢;rw[List.all_append,d];simp[X]
   simp only[go_sem,X,zJ,Bool.not_true,t4,E]
   obtain ⟨z,L,V,z2,z3⟩:=t.eq
   have y:(H++[Ob.box 45 (xM R D)])[h.length]? =some (.box 99 [z,bl (j6 ([],true) ([(W.length:Int)]++ZJ (xc (W.take n)))).2]):=by
    rw[z2];exact zb (zb (List.getElem?_set_self o))
   have Q:=Qx ([(W.length:Int)]++ZJ (xc (W.take n))) ([],true)
   have φ:=YW _ d
   have τ:(xc (W.take n)).length<=W.length:=by unfold xc;rw[List.length_map,List.length_take];omega
   have N:(j6 ([],true) ([(W.length:Int)]++ZJ (xc (W.take n)))).1.length<134217728:=by
    rw[List.length_append] at Q
    simp only[List.length_nil,List.length_cons] at Q
    omega
   refine zc (voa _ h.length z _ R D F y V q2 (c.app _) N q3) ?_
   rintro _ H4 ⟨rfl,k4⟩
   have k5:=(t.app (M:=[Ob.box 45 (xM R D)]) (zi rfl)).trans k4 o
   rw[<-yX] at k5
   simp only[go_sem,w]
   exact ⟨W.length - (n+1),by omega,n+1,by omega,J,by rw[s];simpa [ZJ] using k5,t4,I,P,zx (by omega) rfl,rfl⟩
 ·have ω:=qU e
  have η:n=W.length:=by omega
  subst η
  rw[List.take_length] at d t
  have O:kw (xc W)=((j6 ([],true) ([(W.length:Int)]++ZJ (xc W))).1,0):=by
   unfold kw;rw[d];simp[xc]
  obtain ⟨z,L,V,z2,z3⟩:=t.eq
  have y:H[h.length]? =some (.box 99 [z,bl (j6 ([],true) ([(W.length:Int)]++ZJ (xc W))).2]):=by
   rw[z2];exact zb (List.getElem?_set_self o)
  simp only[go_sem,t4,y]
  obtain ⟨L',C⟩:=t.over a
  exact ⟨.tup [z,i64 0],rfl,.inr ⟨h,L',C,rfl,by simp only[AV.lt,zG,V.lt,Bool.and_self],.refl,⟨z,by rw[O];exact V,by rw[O]⟩,rfl⟩⟩
theorem K6a (h:List Ob) (x:AV) (W:List RwA) (c:SlOf h x 27 (W.map λq=>xM q.1 q.2.1)) (e:∀q∈W,SlOf h q.2.1 2 (q.2.2.map xv)/\(Fit q.1.tier/\Fit (q.1.tier+1))/\q.2.2.length<524288) (f:W.length<4096):
  ACalls Tryz.prog 16 [x] h λr h'=>r= .tup [.sl 1 ((kw (xc W)).1.map je),i64 (kw (xc W)).2]/\h'=h:=
 yr (J7a h x W c e f) λr h' ⟨⟨z,b,d⟩,a⟩=>by
  subst d
  rcases b with rfl | ⟨rfl,g⟩
  ·exact ⟨_,⟨rfl,a⟩,.refl _⟩
  ·refine ⟨_,⟨rfl,a⟩,.two ?_ (.refl _)⟩
   rw[g]
   exact .nil 1
set_option maxRecDepth 100000
section
variable {h:List Ob} {d:Nat} {s:Setup} {a:SA} {x c:AV} {err:Int} {rows segs bytes:AV} {q:Cm}
theorem WRa (i:h[d]? =some (.box 145 (zK s a x c err rows segs bytes q))) (k:SIn h s a) (f:SFit s) (l:List Ev) (p:SlOf h x 11 (l.map evC)) (v:l.length<1048576):
  ACalls Tryz.prog 75 [.ptr d 0] h λr h'=>r= .tup []/\h'=h.set d (.box 145 (zK s a x c (qH err (jD s q) 80) rows (if qH err (jD s q) 80==0 then .sl 5 ((zM s l q.worker).1.map jo) else segs) bytes q)):=by
 refine zf Tryz.f75 [] 29 rfl rfl rfl rfl rfl rfl (by decide) (⟨_,_,⟨rfl,rfl⟩,zC i rfl⟩) λB=>?_
 simp only[go_sem]
 refine zc (vma i k) ?_
 rintro _ D ⟨rfl,z⟩
 rw[z]
 simp only[go_sem]
 refine zc (Qy i (jD s q) 80) ?_
 rintro _ C ⟨rfl,rfl⟩
 have j:=zh (b:=Ob.box 145 (zK s a x c (qH err (jD s q) 80) rows segs bytes q)) i
 have m:=p.keep (.setB (o:= .box 145 (zK s a x c (qH err (jD s q) 80) rows segs bytes q)) i)
 have k2:SIn (h.set d (.box 145 (zK s a x c (qH err (jD s q) 80) rows segs bytes q))) s a:=⟨k.w.keep (.setB i),k.e.keep (.setB i),k.c.keep (.setB i),k.g.keep (.setB i),k.r.keep (.setB i),k.t.keep (.setB i)⟩
 obtain ⟨E,y⟩:∃E,E=qH err (jD s q) 80:=⟨_,rfl⟩
 rw[<-y] at j m k2⊢
 simp only[go_sem]
 cases n:E==0
 ·simp only[go_sem,n]
  exact ⟨_,rfl,.inl ⟨rfl,rfl⟩⟩
 ·simp only[go_sem,n]
  refine zn rfl [] 0 [(0,0,[]),(1,0,[]),(2,0,[]),(3,0,[]),(4,0,[]),(6,0,[]),(7,0,[]),(8,0,[]),(9,0,[]),(11,0,[]),(12,0,[]),(13,0,[]),(14,0,[]),(5,0,[]),(10,0,[]),(15,0,[]),(16,0,[]),(17,0,[]),(18,0,[]),(19,0,[]),(20,0,[]),(21,0,[]),(22,0,[]),(23,0,[])] rfl (by decide) (by decide) ?_
  simp only[go_sem,j]
  refine zc (vga _ s a k2 f x l q.worker m v) ?_
  rintro _ A ⟨rfl,u⟩
  rw[u]
  simp only[go_sem,j,List.set_set]
  exact ⟨_,rfl,.inl ⟨rfl,rfl⟩⟩
theorem SIn.keep (k:SIn h s a) {h':List Ob} (r:RowsK h h'):SIn h' s a:=⟨k.w.keep r,k.e.keep r,k.c.keep r,k.g.keep r,k.r.keep r,k.t.keep r⟩
def ZQ (s:Setup) (err:Int) (q:Cm):Int:=qH (qH err (jD s q) 80) (Qz q) 212
theorem WSa (i:h[d]? =some (.box 145 (zK s a x c err rows segs bytes q))) (k:SIn h s a) (f:SFit s) (l:List Ev) (C:SlOf h x 11 (l.map evC)) (F:l.length<=1000):
  ACalls Tryz.prog 74 [.ptr d 0] h λr h'=>r= .tup []/\∃m L,h'=h.set d (.box 145 (zK s a x c (ZQ s err q) m segs bytes q))++L/\NoRes L/\
   ((ZQ s err q≠0/\m=rows/\L=[])∨(ZQ s err q=0/\m= .tl h.length 0/\L=[.row 45 27 [Qu (zW s l q.worker q.week).1++[.sl 2 ((zW s l q.worker q.week).2.map xv)]] 0])):=by
 have hex:∃r h',(r=AV.tup []/\∃m L,h'=h.set d (.box 145 (zK s a x c (ZQ s err q) m segs bytes q))++L/\NoRes L/\
   ((ZQ s err q≠0/\m=rows/\L=[])∨(ZQ s err q=0/\m= .tl h.length 0/\L=[.row 45 27 [Qu (zW s l q.worker q.week).1++[.sl 2 ((zW s l q.worker q.week).2.map xv)]] 0])))/\ResK h h':=by
  by_cases h0:ZQ s err q=0
  ·exact ⟨_,_,⟨rfl,_,_,rfl,zi rfl,.inr ⟨h0,rfl,rfl⟩⟩,(zC i rfl).trans zR⟩
  ·exact ⟨_,_,⟨rfl,_,[],rfl,qh,.inl ⟨h0,rfl,rfl⟩⟩,by rw[List.append_nil];exact zC i rfl⟩
 refine zf Tryz.f74 [] 36 rfl rfl rfl rfl rfl rfl (by decide) (hex) λB=>?_
 simp only[go_sem]
 refine zc (vma i k) ?_
 rintro _ K ⟨rfl,I⟩
 rw[I]
 simp only[go_sem]
 refine zc (Qy i (jD s q) 80) ?_
 rintro _ y ⟨rfl,rfl⟩
 have t:=zh (b:=Ob.box 145 (zK s a x c (qH err (jD s q) 80) rows segs bytes q)) i
 simp only[go_sem]
 refine zc (Qfa t) ?_
 rintro _ y ⟨rfl,J⟩
 rw[J]
 simp only[go_sem]
 refine zc (Qy t (Qz q) 212) ?_
 rintro _ y ⟨rfl,rfl⟩
 rw[List.set_set]
 have A:qH (qH err (jD s q) 80) (Qz q) 212=ZQ s err q:=rfl
 rw[A]
 have g:=zh (b:=Ob.box 145 (zK s a x c (ZQ s err q) rows segs bytes q)) i
 have j:=C.keep (.setB (o:= .box 145 (zK s a x c (ZQ s err q) rows segs bytes q)) i)
 have k3:=k.keep (.setB (o:= .box 145 (zK s a x c (ZQ s err q) rows segs bytes q)) i)
 have e:(h.set d (.box 145 (zK s a x c (ZQ s err q) rows segs bytes q))).length=h.length:=by rw[List.length_set]
 obtain ⟨E,v⟩:∃E,E=ZQ s err q:=⟨_,rfl⟩
 rw[<-v] at g j k3 e⊢
 have p:∀o,(h.set d (.box 145 (zK s a x c E rows segs bytes q))).set d o=h.set d o:=λo=>List.set_set _
 simp only[go_sem]
 cases u:E==0
 ·have h0:E≠0:=by simpa using u
  simp only[go_sem,u]
  exact ⟨_,rfl,.inl ⟨rfl,rows,[],by rw[List.append_nil],qh,.inl ⟨h0,rfl,rfl⟩⟩⟩
 ·have h0:E=0:=by simpa using u
  simp only[go_sem,u]
  refine zn rfl [.res] 1 [(0,0,[]),(1,0,[]),(2,0,[]),(3,0,[]),(4,0,[]),(6,0,[]),(7,0,[]),(8,0,[]),(9,0,[]),(11,0,[]),(12,0,[]),(13,0,[]),(14,0,[]),(16,0,[]),(17,0,[]),(18,0,[]),(19,0,[]),(5,0,[]),(10,0,[]),(15,0,[]),(20,0,[]),(21,0,[]),(22,0,[]),(23,0,[]),(24,0,[]),(25,0,[]),(26,0,[])] rfl (by decide) (by decide) ?_
  obtain ⟨H,G⟩:∃H,H=h.set d (.box 145 (zK s a x c E rows segs bytes q)):=⟨_,rfl⟩
  rw[<-G] at g j k3 e p⊢
  have n:∀M,(H++M)[d]? =some (.box 145 (zK s a x c E rows segs bytes q)):=λM=>zb g
  have w:=(List.getElem?_eq_some_iff.1 g).1
  simp only[go_sem,n]
  refine zc (WJa _ s a (k3.app _) f x l q.worker q.week (j.app _) F) ?_
  rintro _ N ⟨rfl,z⟩
  rw[z]
  obtain ⟨W,D⟩:∃W,W=zW s l q.worker q.week:=⟨_,rfl⟩
  rw[<-D]
  simp only[go_sem,n,Qu,List.cons_append,List.nil_append]
  refine ⟨.tup [],rfl,.inl ⟨rfl,.tl h.length 0,_,?_,zi rfl,.inr ⟨h0,rfl,rfl⟩⟩⟩
  rw[List.set_append_left _ _ w,p,e]
theorem K7a (b:h[d]? =some (.box 145 (zK s a x c err rows segs bytes q))) (j:Nat) (e:h[j]? =some (.box 142 [.ptr d 0])) (n:Int):
  ACalls Tryz.prog 153 [i64 n,.ptr j 0] h λr h'=>r=bl (n==q.week)/\h'=h:=by
 refine zf Tryz.f153 [.tmp 3] 11 rfl rfl rfl rfl rfl rfl (by decide) (⟨_,_,⟨rfl,rfl⟩,.refl⟩) λB=>?_
 simp only[go_sem,b,e]
 (first | refine zd ?_ | refine ze ?_ (by rfl))<;>(simp only[go_sem]<;>try rfl)
end
end Go.Proofs.YtfmldcilgbbimaaGreat.Ax
