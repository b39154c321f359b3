/-
  Joined.
-/
import Derived.Test.YtigdlmpjijhpaaaGreatK12
set_option linter.unusedSimpArgs false
set_option linter.unusedVariables false
namespace Go.Proofs.YtigdlmpjijhpaaaGreat.Ax
open Go Go.Proofs
set_option maxRecDepth 100000
attribute [go_sem] Z3a
def kIa:List AV->Int
 | [.v (.int _ n)]=>n
 | _=>0
def zJ (n:Int):List AV:=[i64 n]
def KA (lo a n:Int):Bool:=decide (n<lo) || decide (n>a)
def wG (lo a:Int) (l:List Int):Bool:= !l.any (KA lo a)
theorem c99 (h:List Ob) (i j:Nat) (lo c n:Int) (a:h[i]? =some (.box 3 [i64 lo])) (b:h[j]? =some (.box 3 [i64 c])):
  ACalls Tryz.prog 211 [i64 n,.ptr i 0,.ptr j 0] h λr h'=>r=bl (KA lo c n)/\h'=h:=by
 refine zf Tryz.f211 [.tmp 4] 13 rfl rfl rfl rfl rfl rfl (by decide) (⟨_,_,⟨rfl,rfl⟩,.refl⟩) λB=>?_
 simp only[go_sem,a]
 refine ways (λe=>?_) (λe=>?_)
 ·have e:=jM e
  simp only[go_sem,e,a,b]
  (first | refine zc ?_ | refine ze ?_ (by rfl))<;>(simp only[go_sem,KA,e]<;>try rfl)
 ·have e:=jL e
  simp only[go_sem,e,a,b]
  (first | refine zc ?_ | refine ze ?_ (by rfl))<;>(simp only[go_sem,KA,e]<;>try rfl)
theorem c77 (h:List Ob) (x:AV) (lo b:Int) (l:List Int) (e:l.length<9223372036854775808) (c:SlOf h x 1 (l.map zJ)):
  ACalls Tryz.prog 142 [i64 lo,i64 b,x] h λr h'=>r=bl (wG lo b l)/\h'=h:=by
 refine zf Tryz.f142 [.tmp 6] 11 rfl rfl rfl rfl rfl rfl (by decide) (⟨_,_,⟨rfl,rfl⟩,.refl⟩) λB=>?_
 simp only[go_sem]
 refine zd (c98 _ x 211 _ (l.map zJ) (λr=>KA lo b (kIa r)) (by simpa using e) (by simp[zJ]) (c.app _) ?_) ?_
 ·intro row a L
  obtain ⟨n,_,rfl⟩:=List.mem_map.1 a
  refine c99 _ _ _ lo b n ?_ ?_
  all_goals simp only[go_sem]
 ·rintro _ f ⟨rfl,d⟩
  subst d
  simp only[go_sem]
  (first | refine zc ?_ | refine ze ?_ (by rfl))<;>(simp only[go_sem,wG,List.any_map,Function.comp_def,zJ,kIa]<;>try rfl)
def Qs (p:zy):Bool:=decide (p.1<0) || !rok p
theorem J7a (p:zy) (a:qa p):jf Tryz.prog 214 [rat p] (bl (Qs p)):=λh=>by
 refine zf Tryz.f214 [.tmp 2] 11 rfl rfl rfl rfl rfl rfl (by decide) (⟨_,_,⟨rfl,rfl⟩,.refl⟩) λB=>?_
 simp only[go_sem]
 refine ways (λe=>?_) (λe=>?_)
 ·have e:=jM e
  simp only[go_sem,e]
  refine zd (c27 p a.1 a.2 _) ?_
  rintro _ c ⟨rfl,b⟩
  subst b
  simp only[go_sem,e]
  (first | refine zc ?_ | refine ze ?_ (by rfl))<;>(simp only[go_sem,Qs,e]<;>try rfl)
 ·have e:=jL e
  simp only[go_sem,e]
  (first | refine zc ?_ | refine ze ?_ (by rfl))<;>(simp only[go_sem,Qs,e]<;>try rfl)
def kJa:List AV->zy
 | [.v (.int _ n),.v (.int _ d)]=>(n,d)
 | _=>(0,0)
def Zj (l:List zy):Bool:= !l.any Qs
theorem c80 (h:List Ob) (x:AV) (l:List zy) (f:∀p∈l,qa p) (g:l.length<9223372036854775808) (e:SlOf h x 2 (l.map qz)):
  ACalls Tryz.prog 145 [x] h λr h'=>r=bl (Zj l)/\h'=h:=by
 refine zf Tryz.f145 [.tmp 2] 6 rfl rfl rfl rfl rfl rfl (by decide) (⟨_,_,⟨rfl,rfl⟩,.refl⟩) λB=>?_
 simp only[go_sem]
 refine zd (J4a _ x 214 _ (l.map qz) (λr=>Qs (kJa r)) (by simpa using g) (λr b=>by obtain ⟨p,_,rfl⟩:=List.mem_map.1 b;rfl) e ?_) ?_
 ·intro row a L
  obtain ⟨p,c,rfl⟩:=List.mem_map.1 a
  exact J7a p (f p c) _
 ·rintro _ i ⟨rfl,d⟩
  subst d
  simp only[go_sem]
  (first | refine zc ?_ | refine ze ?_ (by rfl))<;>(simp only[go_sem,Zj,List.any_map,Function.comp_def,qz,kJa]<;>try rfl)
abbrev Way:=Int × Int × Int
def QM (w:Way):List AV:=[i64 w.1,i64 w.2.1,i64 w.2.2]
def kKa:List AV->Way
 | [.v (.int _ a),.v (.int _ b),.v (.int _ m)]=>(a,b,m)
 | _=>(0,0,0)
abbrev Elt:=zy × zy
def QN (e:Elt):List AV:=[i64 e.1.1,i64 e.1.2,i64 e.2.1,i64 e.2.2]
def zEa:List AV->Elt
 | [.v (.int _ a),.v (.int _ b),.v (.int _ c),.v (.int _ d)]=>((a,b),(c,d))
 | _=>((0,0),(0,0))
abbrev QO:=Int × Int
structure Setup where
 places:Int
 ways:List Way
 pace:zy
 elements:List Elt
 classes:List zy
 gears:List zy
 allow:Int
 unit:Int
 cap:Int
 paidBreak:Int
 autoAfter:Int
 autoBreak:Int
 dayReg:Int
 dayOver:Int
 weekReg:Int
 nightFrom:Int
 nightTo:Int
 rates:List Int
 diff:Int
 least:Int
 fault:Int
 tiers:List QO
structure SA where
 w:AV
 e:AV
 c:AV
 g:AV
 r:AV
 t:AV
abbrev zr (s:Setup) (a:SA):List AV:=[i64 s.places,a.w,i64 s.pace.1,i64 s.pace.2,a.e,a.c,a.g,i64 s.allow,i64 s.unit,i64 s.cap,i64 s.paidBreak,i64 s.autoAfter,i64 s.autoBreak,
 i64 s.dayReg,i64 s.dayOver,i64 s.weekReg,i64 s.nightFrom,i64 s.nightTo,a.r,i64 s.diff,i64 s.least,i64 s.fault,a.t]
abbrev qj (s:Setup) (a:SA):AV:= .ag (zr s a)
structure SIn (h:List Ob) (s:Setup) (a:SA):Prop where
 w:SlOf h a.w 3 (s.ways.map QM)
 e:SlOf h a.e 4 (s.elements.map QN)
 c:SlOf h a.c 2 (s.classes.map qz)
 g:SlOf h a.g 2 (s.gears.map qz)
 r:SlOf h a.r 1 (s.rates.map zJ)
 t:SlOf h a.t 2 (s.tiers.map qz)
theorem SIn.app {h:List Ob} {s:Setup} {a:SA} (k:SIn h s a) (L:List Ob):SIn (h++L) s a:=⟨k.w.app L,k.e.app L,k.c.app L,k.g.app L,k.r.app L,k.t.app L⟩
structure SFit (s:Setup):Prop where
 places:Fit s.places
 pace:qa s.pace
 elements:∀e∈s.elements,qa e.1/\qa e.2
 classes:∀p∈s.classes,qa p
 gears:∀p∈s.gears,qa p
 tiers:∀t∈s.tiers,qa t
 nw:s.ways.length<9223372036854775808
 ne:s.elements.length<9223372036854775808
 nc:s.classes.length<9223372036854775808
 ng:s.gears.length<9223372036854775808
 nr:s.rates.length<9223372036854775808
 nt:s.tiers.length<9223372036854775808
def yN (places:Int) (w:Way):Bool:= !wG 0 (wr (places - 1)) [w.1,w.2.1] || w.1==w.2.1 || !wG 1 10000 [w.2.2]
theorem c76 (h:List Ob) (i:Nat) (s:Setup) (a:SA) (w:Way) (c:h[i]? =some (.box 30 (zr s a))):
  ACalls Tryz.prog 141 [.ag (QM w),.ptr i 0] h λr h'=>r=bl (yN s.places w)/\h'=h:=by
 refine zf Tryz.f141 [.tmp 3] 28 rfl rfl rfl rfl rfl rfl (by decide) (⟨_,_,⟨rfl,rfl⟩,.refl⟩) λB=>?_
 simp only[go_sem,c,QM]
 have f:∀M,(h++M)[i]? =some (.box 30 (zr s a)):=λM=>zb c
 simp only[go_sem,f]
 refine zd (c77 _ _ 0 _ [w.1,w.2.1] (by simp) ⟨by simp only[go_sem,zJ],λ_=>by simp only[go_sem,zJ]⟩) ?_
 rintro _ g ⟨rfl,d⟩
 subst d
 simp only[go_sem]
 refine ways (λe=>?_) (λe=>?_)
 ·have e:=jM e
  simp only[go_sem,e]
  refine ways (λb=>?_) (λb=>?_)
  ·have b:=jM b
   simp only[go_sem,e,b]
   refine zd (c77 _ _ 1 10000 [w.2.2] (by simp) ⟨by simp only[go_sem,zJ],λ_=>by simp only[go_sem,zJ]⟩) ?_
   rintro _ g ⟨rfl,d⟩
   subst d
   simp only[go_sem,e,b]
   (first | refine zc ?_ | refine ze ?_ (by rfl))<;>(simp only[go_sem,yN,e,b]<;>try rfl)
  ·have b:=jL b
   simp only[go_sem,e,b]
   (first | refine zc ?_ | refine ze ?_ (by rfl))<;>(simp only[go_sem,yN,e,b]<;>try rfl)
 ·have e:=jL e
  simp only[go_sem,e]
  (first | refine zc ?_ | refine ze ?_ (by rfl))<;>(simp only[go_sem,yN,e]<;>try rfl)
def vL (s:Setup):Bool:=wG 1 16 [s.places] && decide ((s.ways.length:Int)<=64) && !s.ways.any (yN s.places)
theorem c47 (h:List Ob) (s:Setup) (a:SA) (k:SIn h s a) (f:SFit s):ACalls Tryz.prog 64 [qj s a] h λr h'=>r=bl (vL s)/\h'=h:=by
 refine zf Tryz.f64 [.tmp 2] 22 rfl rfl rfl rfl rfl rfl (by decide) (⟨_,_,⟨rfl,rfl⟩,.refl⟩) λB=>?_
 simp only[go_sem,k.w.one,k.e.one,k.c.one,k.g.one,k.r.one,k.t.one]
 refine zd (c77 _ _ 1 16 [s.places] (by simp) ⟨by simp only[go_sem,zJ],λ_=>by simp only[go_sem,zJ]⟩) ?_
 rintro _ l ⟨rfl,i⟩
 subst i
 simp only[go_sem]
 refine ways (λe=>?_) (λe=>?_)
 ·have e:=jc e
  simp only[go_sem,e,(k.app _).w.rows,List.length_map]
  refine ways (λb=>?_) (λb=>?_)
  ·have b:=jc b
   simp only[go_sem,e,b]
   refine zd (c78 _ a.w 141 _ (s.ways.map QM) (λr=>yN s.places (kKa r)) (by simpa using f.nw) (λr j=>by obtain ⟨p,_,rfl⟩:=List.mem_map.1 j;rfl) (k.app _).w ?_) ?_
   ·intro row d L
    obtain ⟨p,m,rfl⟩:=List.mem_map.1 d
    refine c76 _ _ s a p ?_
    simp only[go_sem]
   ·rintro _ l ⟨rfl,i⟩
    subst i
    simp only[go_sem]
    (first | refine zc ?_ | refine ze ?_ (by rfl))<;>(simp only[go_sem,vL,e,b,List.any_map,Function.comp_def,QM,kKa]<;>try rfl)
  ·have b:=jb b
   simp only[go_sem,e,b]
   (first | refine zc ?_ | refine ze ?_ (by rfl))<;>(simp only[go_sem,vL,e,b]<;>try rfl)
 ·have e:=jb e
  simp only[go_sem,e]
  (first | refine zc ?_ | refine ze ?_ (by rfl))<;>(simp only[go_sem,vL,e]<;>try rfl)
def QP (e:Elt):Bool:= !Zj [e.1,e.2]
theorem c79 (e:Elt) (a:qa e.1/\qa e.2):jf Tryz.prog 144 [.ag (QN e)] (bl (QP e)):=λh=>by
 refine zf Tryz.f144 [.tmp 2] 10 rfl rfl rfl rfl rfl rfl (by decide) (⟨_,_,⟨rfl,rfl⟩,.refl⟩) λB=>?_
 simp only[go_sem,QN]
 refine zd (c80 _ _ [e.1,e.2] (by simpa using a) (by simp) ⟨by simp only[go_sem,qz],λ_=>by simp only[go_sem,qz]⟩) ?_
 rintro _ c ⟨rfl,b⟩
 subst b
 simp only[go_sem]
 (first | refine zc ?_ | refine ze ?_ (by rfl))<;>(simp only[go_sem,QP]<;>try rfl)
def QLa (a b c:Int):Int:=if c>(if b>a then b else a) then c else (if b>a then b else a)
def vM (s:Setup):Bool:=Zj [s.pace] && Zj s.classes && Zj s.gears && !s.elements.any QP && decide (QLa s.elements.length s.classes.length s.gears.length<=8)
theorem c48 (h:List Ob) (s:Setup) (a:SA) (k:SIn h s a) (f:SFit s):ACalls Tryz.prog 65 [qj s a] h λr h'=>r=bl (vM s)/\h'=h:=by
 refine zf Tryz.f65 [.tmp 2] 38 rfl rfl rfl rfl rfl rfl (by decide) (⟨_,_,⟨rfl,rfl⟩,.refl⟩) λB=>?_
 simp only[go_sem,k.w.one,k.e.one,k.c.one,k.g.one,k.r.one,k.t.one]
 refine zd (c80 _ _ [s.pace] (by simpa using f.pace) (by simp) ⟨by simp only[go_sem,qz],λ_=>by simp only[go_sem,qz]⟩) ?_
 rintro _ n ⟨rfl,j⟩
 subst j
 simp only[go_sem]
 refine ways (λe=>?_) (λe=>?_)
 ·have e:=jc e
  simp only[go_sem,e]
  refine zd (c80 _ a.c s.classes f.classes f.nc (k.app _).c) ?_
  rintro _ n ⟨rfl,j⟩
  subst j
  simp only[go_sem,e]
  refine ways (λb=>?_) (λb=>?_)
  ·have b:=jc b
   simp only[go_sem,e,b]
   refine zd (c80 _ a.g s.gears f.gears f.ng (k.app _).g) ?_
   rintro _ n ⟨rfl,j⟩
   subst j
   simp only[go_sem,e,b]
   refine ways (λd=>?_) (λd=>?_)
   ·have d:=jc d
    simp only[go_sem,e,b,d]
    refine zd (c81 _ a.e 144 _ (s.elements.map QN) (λr=>QP (zEa r)) (by simpa using f.ne) (λr o=>by obtain ⟨p,_,rfl⟩:=List.mem_map.1 o;rfl) (k.app _).e ?_) ?_
    ·intro row m L
     obtain ⟨p,q,rfl⟩:=List.mem_map.1 m
     exact c79 p (f.elements p q) _
    ·rintro _ n ⟨rfl,j⟩
     subst j
     have l:(s.elements.map QN).any (λr=>QP (zEa r))=s.elements.any QP:=by simp only[List.any_map,Function.comp_def,QN,zEa]
     simp only[go_sem,l,e,b,d]
     refine ways (λi=>?_) (λi=>?_)
     ·have i:=jc i
      simp only[go_sem,e,b,d,i,(k.app _).e.rows,(k.app _).c.rows,(k.app _).g.rows,List.length_map]
      (first | refine zc ?_ | refine ze ?_ (by rfl))<;>(simp only[go_sem,vM,e,b,d,i,QLa]<;>try rfl)
     ·have i:=jb i
      simp only[go_sem,e,b,d,i]
      (first | refine zc ?_ | refine ze ?_ (by rfl))<;>(simp only[go_sem,vM,e,b,d,i]<;>try rfl)
   ·have d:=jb d
    simp only[go_sem,e,b,d]
    (first | refine zc ?_ | refine ze ?_ (by rfl))<;>(simp only[go_sem,vM,e,b,d]<;>try rfl)
  ·have b:=jb b
   simp only[go_sem,e,b]
   (first | refine zc ?_ | refine ze ?_ (by rfl))<;>(simp only[go_sem,vM,e,b]<;>try rfl)
 ·have e:=jb e
  simp only[go_sem,e]
  (first | refine zc ?_ | refine ze ?_ (by rfl))<;>(simp only[go_sem,vM,e]<;>try rfl)
set_option maxRecDepth 100000
def xT (s:Setup):Bool:=wG 0 100 [s.allow] && wG 1 3600 [s.unit] && wG 60 57600 [s.cap] && wG 0 86400 [s.paidBreak,s.autoAfter,s.autoBreak,s.nightFrom,s.nightTo,s.fault,s.dayOver] && wG 0 s.dayOver [s.dayReg] && wG 0 604800 [s.weekReg]
theorem c49 (h:List Ob) (s:Setup) (a:SA) (k:SIn h s a) (f:SFit s):ACalls Tryz.prog 66 [qj s a] h λr h'=>r=bl (xT s)/\h'=h:=by
 refine zf Tryz.f66 [.tmp 2] 51 rfl rfl rfl rfl rfl rfl (by decide) (⟨_,_,⟨rfl,rfl⟩,.refl⟩) λB=>?_
 simp only[go_sem,k.w.one,k.e.one,k.c.one,k.g.one,k.r.one,k.t.one]
 refine zd (c77 _ _ 0 100 [s.allow] (by simp) ⟨by simp only[go_sem,zJ],λ_=>by simp only[go_sem,zJ]⟩) ?_
 rintro _ n ⟨rfl,l⟩
 subst l
 simp only[go_sem]
 refine ways (λb=>?_) (λb=>?_)
 ·have b:=jc b
  simp only[go_sem,b]
  refine zd (c77 _ _ 1 3600 [s.unit] (by simp) ⟨by simp only[go_sem,zJ],λ_=>by simp only[go_sem,zJ]⟩) ?_
  rintro _ n ⟨rfl,l⟩
  subst l
  simp only[go_sem,b]
  refine ways (λd=>?_) (λd=>?_)
  ·have d:=jc d
   simp only[go_sem,b,d]
   refine zd (c77 _ _ 60 57600 [s.cap] (by simp) ⟨by simp only[go_sem,zJ],λ_=>by simp only[go_sem,zJ]⟩) ?_
   rintro _ n ⟨rfl,l⟩
   subst l
   simp only[go_sem,b,d]
   refine ways (λi=>?_) (λi=>?_)
   ·have i:=jc i
    simp only[go_sem,b,d,i]
    refine zd (c77 _ _ 0 86400 [s.paidBreak,s.autoAfter,s.autoBreak,s.nightFrom,s.nightTo,s.fault,s.dayOver] (by simp) ⟨by simp only[go_sem,zJ],λ_=>by simp only[go_sem,zJ]⟩) ?_
    rintro _ n ⟨rfl,l⟩
    subst l
    simp only[go_sem,b,d,i]
    refine ways (λj=>?_) (λj=>?_)
    ·have j:=jc j
     simp only[go_sem,b,d,i,j]
     refine zd (c77 _ _ 0 _ [s.dayReg] (by simp) ⟨by simp only[go_sem,zJ],λ_=>by simp only[go_sem,zJ]⟩) ?_
     rintro _ n ⟨rfl,l⟩
     subst l
     simp only[go_sem,b,d,i,j]
     refine ways (λm=>?_) (λm=>?_)
     ·have m:=jc m
      simp only[go_sem,b,d,i,j,m]
      refine zd (c77 _ _ 0 604800 [s.weekReg] (by simp) ⟨by simp only[go_sem,zJ],λ_=>by simp only[go_sem,zJ]⟩) ?_
      rintro _ n ⟨rfl,l⟩
      subst l
      simp only[go_sem,b,d,i,j,m]
      (first | refine zc ?_ | refine ze ?_ (by rfl))<;>(simp only[go_sem,xT,b,d,i,j,m]<;>try rfl)
     ·have m:=jb m
      simp only[go_sem,b,d,i,j,m]
      (first | refine zc ?_ | refine ze ?_ (by rfl))<;>(simp only[go_sem,xT,b,d,i,j,m]<;>try rfl)
    ·have j:=jb j
     simp only[go_sem,b,d,i,j]
     (first | refine zc ?_ | refine ze ?_ (by rfl))<;>(simp only[go_sem,xT,b,d,i,j]<;>try rfl)
   ·have i:=jb i
    simp only[go_sem,b,d,i]
    (first | refine zc ?_ | refine ze ?_ (by rfl))<;>(simp only[go_sem,xT,b,d,i]<;>try rfl)
  ·have d:=jb d
   simp only[go_sem,b,d]
   (first | refine zc ?_ | refine ze ?_ (by rfl))<;>(simp only[go_sem,xT,b,d]<;>try rfl)
 ·have b:=jb b
  simp only[go_sem,b]
  (first | refine zc ?_ | refine ze ?_ (by rfl))<;>(simp only[go_sem,xT,b]<;>try rfl)
def wq (last:Int) (t:QO):Bool:=decide (t.1<=last) || decide (t.1>1000) || !wG 0 100000 [t.2]
theorem c82 (h:List Ob) (i:Nat) (last:Int) (t:QO) (c:h[i]? =some (.box 3 [i64 last])):
  ACalls Tryz.prog 147 [.ag (qz t),.ptr i 0] h λr h'=>r=bl (wq last t)/\h'=h.set i (.box 3 [i64 t.1]):=by
 have d:∀M,(h++M)[i]? =some (.box 3 [i64 last]):=λM=>zb c
 have f:∀M o,(h++M).set i o=h.set i o++M:=λM o=>z6 c
 have fin:∀(T:Env) (M:List Ob) (b:Bool),T 3=bl b->b=wq last t->jka Tryz.prog [.tmp 3] h (λr h'=>r=bl (wq last t)/\h'=h.set i (.box 3 [i64 t.1])) .ret T (h.set i (.box 3 [i64 t.1])++M):=λT M b j g=>
  ⟨bl b,by simp only[go_sem,j],.inr ⟨_,M,rfl,by simp,rfl,KeepLt.refl.set rfl rfl,by rw[g],rfl⟩⟩
 refine zf Tryz.f147 [.tmp 3] 24 rfl rfl rfl rfl rfl rfl (by decide) (⟨_,_,⟨rfl,rfl⟩,zK c rfl⟩) λB=>?_
 simp only[go_sem,c,qz,d]
 refine ways (λe=>?_) (λe=>?_)
 ·have e:=jM e
  simp only[go_sem,e]
  refine ways (λa=>?_) (λa=>?_)
  ·have a:=jM a
   simp only[go_sem,e,a]
   refine zd (c77 _ _ 0 100000 [t.2] (by simp) ⟨by simp only[go_sem,zJ],λ_=>by simp only[go_sem,zJ]⟩) ?_
   rintro _ k ⟨rfl,g⟩
   subst g
   simp only[go_sem,e,a,d,f]
   refine fin _ _ (!wG 0 100000 [t.2]) ?_ ?_
   ·simp only[go_sem]
   ·simp only[wq,e,a,Bool.false_or]
  ·have a:=jL a
   simp only[go_sem,e,a,d,f]
   refine fin _ _ true ?_ ?_
   ·simp only[go_sem]
   ·simp only[wq,e,a,Bool.false_or,Bool.true_or]
 ·have e:=jL e
  simp only[go_sem,e,d,f]
  refine fin _ _ true ?_ ?_
  ·simp only[go_sem]
  ·simp only[wq,e,Bool.true_or]
def jQ:Int->List QO->Bool
 | _,[]=>false
 | last,t::l=>wq last t || jQ t.1 l
theorem J8a (h:List Ob) (x:AV) (i:Nat) (last:Int) (l:List QO) (F:l.length<9223372036854775808) (C:∀o,SlOf (h.set i o) x 2 (l.map qz)) (d:h[i]? =some (.box 3 [i64 last])):
  ACalls Tryz.prog 216 [x,.fn (.func 147) [] [.ptr i 0]] h λr h'=>∃n m,r=i64 n/\h'=h.set i (.box 3 [i64 m])/\decide (n≥0)=jQ last l:=by
 have a:h.set i (.box 3 [i64 last])=h:=by
  apply List.ext_getElem?
  intro j
  by_cases D:j=i
  ·subst D;rw[zh d,d]
  ·rw[List.getElem?_set_ne (λe=>D e.symm)]
 have p:=C (.box 3 [i64 last])
 rw[a] at p
 refine zf Tryz.f216 [.tmp 4] 19 rfl rfl rfl rfl rfl rfl (by decide) (⟨_,_,⟨if jQ last l then 0 else -1,last,rfl,rfl,by split<;>simp_all⟩,zK d rfl⟩) λB=>?_
 simp only[go_sem,p.rows,List.length_map]
 refine zk (by decide) (λn T h'=>∃(k:Nat) (f:Int),h'=h.set i (.box 3 [i64 f])/\T 0=x/\T 1= .fn (.func 147) [] [.ptr i 0]/\T 7=i64 l.length/\T 8=i64 k/\k<=l.length/\jQ last l=jQ f (l.drop k)/\n=l.length - k) l.length
  ⟨0,last,a.symm,by simp only[go_sem],by simp only[go_sem],by simp only[go_sem],by (simp only[go_sem]<;>rfl),by omega,rfl,rfl⟩ ?_
 rintro n T h' ⟨k,f,rfl,t0,t1,y,t8,H,h0,rfl⟩
 have u:=zh (b:=Ob.box 3 [i64 f]) d
 have s:∀o,(h.set i (.box 3 [i64 f])).set i o=h.set i o:=λo=>List.set_set ..
 have q:=C (.box 3 [i64 f])
 simp only[go_sem,y,t8]
 refine ways (λt=>?_) (λt=>?_)
 ·have c:k<l.length:=by simpa using t
  have z:=q.at (i:=k) (by simpa using c)
  have g:(l.map qz)[k]? =some (qz l[k]):=by simp[c]
  have v:(k:Int)<l.length:=by omega
  have w:=c82 (h.set i (.box 3 [i64 f])) i f l[k] u
  rw[s] at w
  simp only[qz] at g w
  rw[List.drop_eq_getElem_cons c] at h0
  simp only[go_sem,z,q.rows,g,v,t0,t1,y,t8,Int.toNat_natCast,Int.natCast_nonneg,List.length_map]
  refine zd w ?_
  rintro _ G ⟨rfl,E⟩
  subst E
  simp only[go_sem]
  refine ways (λA=>?_) (λA=>?_)
  ·simp only[go_sem,t8]
   exact ⟨i64 k,by simp only[go_sem],.inl ⟨k,l[k].1,rfl,rfl,by rw[h0];simp[jQ,A]⟩⟩
  ·simp only[go_sem,t8,jv (show k<9223372036854775807 by omega)]
   refine ⟨l.length - (k+1),by omega,k+1,l[k].1,rfl,t0,t1,y,rfl,by omega,?_,rfl⟩
   rw[h0];simp[jQ,A]
 ·have c:k=l.length:=by
   have:¬ (k:Int)<l.length:=by simpa using t
   omega
  rw[c,List.drop_length] at h0
  simp only[go_sem]
  exact ⟨i64 (-1),by simp only[go_sem],.inl ⟨-1,f,rfl,rfl,by rw[h0];rfl⟩⟩
theorem c83 (h:List Ob) (x:AV) (i:Nat) (last:Int) (l:List QO) (g:l.length<9223372036854775808) (e:∀o,SlOf (h.set i o) x 2 (l.map qz)) (b:h[i]? =some (.box 3 [i64 last])):
  ACalls Tryz.prog 148 [x,.fn (.func 147) [] [.ptr i 0]] h λr h'=>r=bl (jQ last l)/\∃a,h'=h.set i (.box 3 [i64 a]):=by
 refine zf Tryz.f148 [.tmp 4] 9 rfl rfl rfl rfl rfl rfl (by decide) (⟨_,_,⟨rfl,last,rfl⟩,zK b rfl⟩) λB=>?_
 simp only[go_sem]
 refine zd (J8a h x i last l g e b) ?_
 rintro _ j ⟨n,d,rfl,c,f⟩
 subst c
 simp only[go_sem,f]
 exact ⟨bl (jQ last l),by simp only[go_sem],.inl ⟨rfl,d,rfl⟩⟩
def vp (s:Setup):Bool:=decide ((s.rates.length:Int)>0) && decide ((s.rates.length:Int)<=16) && wG 0 100000 s.rates && wG 0 100000 [s.diff,s.least] && decide ((s.tiers.length:Int)<=8) && !jQ (-1) s.tiers
theorem c50 (h:List Ob) (s:Setup) (a:SA) (k:SIn h s a) (f:SFit s):ACalls Tryz.prog 67 [qj s a] h λr h'=>r=bl (vp s)/\h'=h:=by
 refine zf Tryz.f67 [.tmp 2] 42 rfl rfl rfl rfl rfl rfl (by decide) (⟨_,_,⟨rfl,rfl⟩,.refl⟩) λB=>?_
 simp only[go_sem,k.w.one,k.e.one,k.c.one,k.g.one,k.r.one,k.t.one,(k.app _).r.rows,List.length_map]
 refine ways (λb=>?_) (λb=>?_)
 ·have b:=jc b
  simp only[go_sem,b,(k.app _).r.rows,(k.app _).t.rows,List.length_map]
  refine ways (λd=>?_) (λd=>?_)
  ·have d:=jc d
   simp only[go_sem,b,d,(k.app _).r.rows,(k.app _).t.rows,List.length_map]
   refine zd (c77 _ a.r 0 100000 s.rates f.nr (k.app _).r) ?_
   rintro _ n ⟨rfl,m⟩
   subst m
   simp only[go_sem,b,d,(k.app _).r.rows,(k.app _).t.rows,List.length_map]
   refine ways (λi=>?_) (λi=>?_)
   ·have i:=jc i
    simp only[go_sem,b,d,i,(k.app _).r.rows,(k.app _).t.rows,List.length_map]
    refine zd (c77 _ _ 0 100000 [s.diff,s.least] (by simp) ⟨by simp only[go_sem,zJ],λ_=>by simp only[go_sem,zJ]⟩) ?_
    rintro _ n ⟨rfl,m⟩
    subst m
    simp only[go_sem,b,d,i,(k.app _).r.rows,(k.app _).t.rows,List.length_map]
    refine ways (λj=>?_) (λj=>?_)
    ·have j:=jc j
     simp only[go_sem,b,d,i,j,(k.app _).r.rows,(k.app _).t.rows,List.length_map]
     refine ways (λl=>?_) (λl=>?_)
     ·have l:=jc l
      simp only[go_sem,b,d,i,j,l,(k.app _).r.rows,(k.app _).t.rows,List.length_map]
      refine zd (c83 _ a.t _ (-1) s.tiers f.nt (λo=>by simp only[go_sem];exact (k.app _).t) (by simp only[go_sem])) ?_
      rintro _ n ⟨rfl,p,m⟩
      subst m
      simp only[go_sem,b,d,i,j,l,(k.app _).r.rows,(k.app _).t.rows,List.length_map]
      (first | refine zc ?_ | refine ze ?_ (by rfl))<;>(simp only[go_sem,vp,b,d,i,j,l,(k.app _).r.rows,(k.app _).t.rows,List.length_map]<;>try rfl)
     ·have l:=jb l
      simp only[go_sem,b,d,i,j,l]
      (first | refine zc ?_ | refine ze ?_ (by rfl))<;>(simp only[go_sem,vp,b,d,i,j,l]<;>try rfl)
    ·have j:=jb j
     simp only[go_sem,b,d,i,j]
     (first | refine zc ?_ | refine ze ?_ (by rfl))<;>(simp only[go_sem,vp,b,d,i,j]<;>try rfl)
   ·have i:=jb i
    simp only[go_sem,b,d,i]
    (first | refine zc ?_ | refine ze ?_ (by rfl))<;>(simp only[go_sem,vp,b,d,i]<;>try rfl)
  ·have d:=jb d
   simp only[go_sem,b,d]
   (first | refine zc ?_ | refine ze ?_ (by rfl))<;>(simp only[go_sem,vp,b,d]<;>try rfl)
 ·have b:=jb b
  simp only[go_sem,b]
  (first | refine zc ?_ | refine ze ?_ (by rfl))<;>(simp only[go_sem,vp,b]<;>try rfl)
def zE (s:Setup):Bool:=vL s && vM s && xT s && vp s
theorem c16 (h:List Ob) (s:Setup) (a:SA) (k:SIn h s a) (f:SFit s):ACalls Tryz.prog 20 [qj s a] h λr h'=>r=bl (zE s)/\h'=h:=by
 refine zf Tryz.f20 [.tmp 2] 17 rfl rfl rfl rfl rfl rfl (by decide) (⟨_,_,⟨rfl,rfl⟩,.refl⟩) λB=>?_
 simp only[go_sem,k.w.one,k.e.one,k.c.one,k.g.one,k.r.one,k.t.one]
 refine zd (c47 _ s a (k.app _) f) ?_
 rintro _ l ⟨rfl,j⟩
 subst j
 simp only[go_sem]
 refine ways (λb=>?_) (λb=>?_)
 ·have b:=jc b
  simp only[go_sem,b]
  refine zd (c48 _ s a (k.app _) f) ?_
  rintro _ l ⟨rfl,j⟩
  subst j
  simp only[go_sem,b]
  refine ways (λd=>?_) (λd=>?_)
  ·have d:=jc d
   simp only[go_sem,b,d]
   refine zd (c49 _ s a (k.app _) f) ?_
   rintro _ l ⟨rfl,j⟩
   subst j
   simp only[go_sem,b,d]
   refine ways (λi=>?_) (λi=>?_)
   ·have i:=jc i
    simp only[go_sem,b,d,i]
    refine zd (c50 _ s a (k.app _) f) ?_
    rintro _ l ⟨rfl,j⟩
    subst j
    simp only[go_sem,b,d,i]
    (first | refine zc ?_ | refine ze ?_ (by rfl))<;>(simp only[go_sem,zE,b,d,i]<;>try rfl)
   ·have i:=jb i
    simp only[go_sem,b,d,i]
    (first | refine zc ?_ | refine ze ?_ (by rfl))<;>(simp only[go_sem,zE,b,d,i]<;>try rfl)
  ·have d:=jb d
   simp only[go_sem,b,d]
   (first | refine zc ?_ | refine ze ?_ (by rfl))<;>(simp only[go_sem,zE,b,d]<;>try rfl)
 ·have b:=jb b
  simp only[go_sem,b]
  (first | refine zc ?_ | refine ze ?_ (by rfl))<;>(simp only[go_sem,zE,b]<;>try rfl)
set_option maxRecDepth 100000
attribute [go_sem] v7a v8a yza yDa ysa yEa QIa
structure Ev where
 id:Int
 worker:Int
 at_:Int
 kind:Int
 from_:Int
 to_:Int
 element:Int
 units:Int
 class_:Int
 gear:Int
 code:Int
abbrev evC (e:Ev):List AV:=[i64 e.id,i64 e.worker,i64 e.at_,i64 e.kind,i64 e.from_,i64 e.to_,i64 e.element,i64 e.units,i64 e.class_,i64 e.gear,i64 e.code]
abbrev evV (e:Ev):AV:= .ag (evC e)
def xm (i:Nat) (k:Int):List (List AV):=if k=3 then [[.ptr i 4],[.ptr i 5],[.ptr i 6],[.ptr i 7],[.ptr i 8],[.ptr i 9]] else if k=4 then [[.ptr i 10]] else []
def QQ (k:Int):Bool:=1==k || (2==k || (3==k || (4==k || (5==k || (6==k || 7==k)))))
theorem c71 (h:List Ob) (i:Nat) (e:Ev) (b:h[i]? =some (.box 75 (evC e))):
  ACalls Tryz.prog 180 [.ptr i 0] h λr h'=>∃L x,h'=h++L/\r= .tup [x,bl (QQ e.kind)]/\∀a:List Ob,a.length=h.length->SlOf (a++L) x 1 (xm i e.kind):=by
 have d:∀M,(h++M)[i]? =some (.box 75 (evC e)):=λM=>zb b
 refine zf Tryz.f180 [.tmp 2,.tmp 3] 43 rfl rfl rfl rfl rfl rfl (by decide) (⟨_,h,⟨[],.sl 1 _,by simp,rfl,λ_ _=>⟨rfl,λ_=>rfl⟩⟩,.refl⟩) λB=>?_
 simp only[go_sem,b]
 refine zp rfl [.res,.res,.res] 3 [(6,0,[]),(7,0,[]),(8,0,[]),(9,0,[]),(10,0,[]),(11,0,[]),(12,0,[]),(13,0,[]),(14,0,[]),(15,0,[]),(16,0,[]),(17,0,[]),(18,0,[]),(19,0,[]),(20,0,[]),(21,0,[]),(22,0,[]),(23,0,[]),(26,0,[]),(27,0,[]),(28,0,[]),(0,0,[]),(1,0,[]),(2,0,[]),(3,0,[]),(4,0,[]),(5,0,[]),(24,1,[]),(25,0,[]),(29,2,[]),(30,0,[]),(31,0,[]),(32,0,[])] rfl (by decide) (by decide) ?_
 simp only[go_sem,d]
 refine ⟨.tup [if 1=e.kind then AV.v (Value.slice none 0 0) else if 2=e.kind then AV.v (Value.slice none 0 0) else if 3=e.kind then AV.tl (h.length+1) 0 else if 4=e.kind then AV.tl (h.length+2) 0 else if 5=e.kind then AV.v (Value.slice none 0 0) else if 6=e.kind then AV.v (Value.slice none 0 0) else if 7=e.kind then AV.v (Value.slice none 0 0) else AV.v (Value.slice none 0 0),bl (QQ e.kind)],by simp only[go_sem,QQ]<;>rfl,.inl ⟨_,_,rfl,rfl,λa c=>?_⟩⟩
 rw[<-c]
 by_cases k1:e.kind=3
 ·rw[xm,if_pos k1,k1]
  exact ⟨by simp only[go_sem],λ_=>by simp only[go_sem]⟩
 ·by_cases k2:e.kind=4
  ·rw[xm,if_neg k1,if_pos k2,k2]
   exact ⟨by simp only[go_sem],λ_=>by simp only[go_sem]⟩
  ·rw[xm,if_neg k1,if_neg k2]
   have a1:¬ 3=e.kind:=λh=>k1 h.symm
   have a2:¬ 4=e.kind:=λh=>k2 h.symm
   simp only[if_neg a1,if_neg a2,ite_self]
   exact ⟨rfl,λh=>absurd rfl h⟩
def wX (n a:Int):Bool:=decide (n≥0) && decide (n<=a)
theorem c72 (n a:Int):jf Tryz.prog 181 [i64 n,i64 a] (bl (wX n a)):=λh=>by
 refine zf Tryz.f181 [.tmp 4] 12 rfl rfl rfl rfl rfl rfl (by decide) (⟨_,_,⟨rfl,rfl⟩,.refl⟩) λB=>?_
 simp only[go_sem]
 refine ways (λe=>?_) (λe=>?_)
 ·have e:=jc e
  simp only[go_sem,e]
  (first | refine zc ?_ | refine ze ?_ (by rfl))<;>(simp only[go_sem,wX,e]<;>try rfl)
 ·have e:=jb e
  simp only[go_sem,e]
  (first | refine zc ?_ | refine ze ?_ (by rfl))<;>(simp only[go_sem,wX,e]<;>try rfl)
theorem QMa (n:Int):jf Tryz.prog 195 [i64 n] (bl false):=λh=>by
 refine zf Tryz.f195 [.tmp 2] 6 rfl rfl rfl rfl rfl rfl (by decide) (⟨_,_,⟨rfl,rfl⟩,.refl⟩) λB=>?_
 simp only[go_sem]
 (first | refine zc ?_ | refine ze ?_ (by rfl))<;>(simp only[go_sem,bne_self_eq_false]<;>try rfl)
def VW (a b:Int):Int:=if a<b then -1 else if a>b then 1 else 0
theorem c95 (a b:Int):jf Tryz.prog 122 [i64 a,i64 b] (i64 (VW a b)):=λh=>by
 refine zf Tryz.f122 [.tmp 4] 20 rfl rfl rfl rfl rfl rfl (by decide) (⟨_,_,⟨rfl,rfl⟩,.refl⟩) λB=>?_
 simp only[go_sem]
 refine zd (QMa a _) ?_
 rintro _ _ ⟨rfl,rfl⟩
 simp only[go_sem]
 refine zd (QMa b _) ?_
 rintro _ _ ⟨rfl,rfl⟩
 simp only[go_sem]
 refine ways (λe=>?_) (λe=>?_)
 ·simp only[go_sem]
  (first | refine zc ?_ | refine ze ?_ (by rfl))<;>(simp only[go_sem,VW,of_decide_eq_true e]<;>try rfl)
 ·simp only[go_sem]
  refine ways (λc=>?_) (λc=>?_)
  ·simp only[go_sem]
   (first | refine zc ?_ | refine ze ?_ (by rfl))<;>(simp only[go_sem,VW,of_decide_eq_false e,of_decide_eq_true c]<;>try rfl)
  ·simp only[go_sem]
   (first | refine zc ?_ | refine ze ?_ (by rfl))<;>(simp only[go_sem,VW,of_decide_eq_false e,of_decide_eq_false c]<;>try rfl)
def orI:List Int->Int
 | []=>0
 | n::l=>if n≠0 then n else orI l
theorem J9a (h:List Ob) (x:AV) (a b:Int) (d:SlOf h x 1 [[i64 a],[i64 b]]):ACalls Tryz.prog 176 [x] h λr h'=>r=i64 (orI [a,b])/\h'=h:=by
 have j:=d.at (i:=0) (by simp)
 refine zf Tryz.f176 [.tmp 2] 18 rfl rfl rfl rfl rfl rfl (by decide) (⟨_,_,⟨rfl,rfl⟩,.refl⟩) λB=>?_
 simp only[go_sem,d.rows]
 refine ky 3 (qT (by decide) ?_)
 simp only[go_sem,d.rows,j]
 refine ways (λe=>?_) (λe=>?_)
 ·simp only[go_sem]
  have c:¬ a=0:=by simpa using e
  (first | refine zc ?_ | refine ze ?_ (by rfl))<;>(simp only[go_sem,orI,c,ne_eq,not_false_eq_true]<;>try rfl)
 ·have c:a=0:=by simpa using e
  simp only[go_sem]
  refine qT (by decide) ?_
  simp only[go_sem,d.rows,j]
  refine ways (λf=>?_) (λf=>?_)
  ·simp only[go_sem]
   have g:¬ b=0:=by simpa using f
   (first | refine zc ?_ | refine ze ?_ (by rfl))<;>(simp only[go_sem,orI,c,g,ne_eq,not_false_eq_true,not_true_eq_false]<;>try rfl)
  ·have g:b=0:=by simpa using f
   simp only[go_sem]
   refine qT (by decide) ?_
   simp only[go_sem]
   (first | refine zc ?_ | refine ze ?_ (by rfl))<;>(simp only[go_sem,orI,c,g,ne_eq,not_false_eq_true,not_true_eq_false]<;>try rfl)
def wwa (a b:Ev):Int:=orI [VW a.at_ b.at_,VW a.id b.id]
theorem c89 (a b:Ev):jf Tryz.prog 111 [evV a,evV b] (i64 (wwa a b)):=λh=>by
 refine zf Tryz.f111 [.tmp 4] 17 rfl rfl rfl rfl rfl rfl (by decide) (⟨_,_,⟨rfl,rfl⟩,.refl⟩) λB=>?_
 simp only[go_sem]
 refine zp rfl [.res] 1 [(0,0,[]),(2,0,[]),(5,0,[]),(7,0,[]),(1,0,[]),(3,0,[]),(6,0,[]),(8,0,[]),(4,0,[6,8]),(9,0,[]),(10,0,[]),(11,0,[]),(12,0,[])] rfl (by decide) (by decide) ?_
 simp only[go_sem]
 refine zd (c95 a.at_ b.at_ _) ?_
 rintro _ d ⟨rfl,c⟩
 subst c
 simp only[go_sem]
 refine zd (c95 a.id b.id _) ?_
 rintro _ d ⟨rfl,c⟩
 subst c
 simp only[go_sem]
 refine zd (J9a _ _ (VW a.at_ b.at_) (VW a.id b.id) ⟨by simp only[go_sem],λ_=>by simp only[go_sem]⟩) ?_
 rintro _ d ⟨rfl,c⟩
 subst c
 simp only[go_sem]
 (first | refine zc ?_ | refine ze ?_ (by rfl))<;>(simp only[go_sem,wwa]<;>try rfl)
end Go.Proofs.YtigdlmpjijhpaaaGreat.Ax
