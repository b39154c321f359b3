/-
  Joined.
-/
import Derived.Test.YtfmldcilgbbimaaGreatK12
set_option linter.unusedSimpArgs false
set_option linter.unusedVariables false
namespace Go.Proofs.YtfmldcilgbbimaaGreat.Ax
open Go Go.Proofs
set_option maxRecDepth 100000
attribute [go_sem] Vya
def XH:List AV->Int
 | [.v (.int _ n)]=>n
 | _=>0
def zz (n:Int):List AV:=[i64 n]
def W5 (lo a n:Int):Bool:=decide (n<lo) || decide (n>a)
def yK (lo a:Int) (l:List Int):Bool:= !l.any (W5 lo a)
theorem c99 (h:List Ob) (i j:Nat) (lo c n:Int) (a:h[i]? =some (.box 3 [i64 lo])) (b:h[j]? =some (.box 3 [i64 c])):
  ACalls Tryz.prog 193 [i64 n,.ptr i 0,.ptr j 0] h λr h'=>r=bl (W5 lo c n)/\h'=h:=by
 refine zf Tryz.f193 [.tmp 4] 13 rfl rfl rfl rfl rfl rfl (by decide) (⟨_,_,⟨rfl,rfl⟩,.refl⟩) λB=>?_
 simp only[go_sem,a]
 refine ways (λe=>?_) (λe=>?_)
 ·have e:=xk e
  simp only[go_sem,e,a,b]
  (first | refine zd ?_ | refine ze ?_ (by rfl))<;>(simp only[go_sem,W5,e]<;>try rfl)
 ·have e:=xj e
  simp only[go_sem,e,a,b]
  (first | refine zd ?_ | refine ze ?_ (by rfl))<;>(simp only[go_sem,W5,e]<;>try rfl)
theorem c77 (h:List Ob) (x:AV) (lo b:Int) (l:List Int) (d:l.length<9223372036854775808) (c:SlOf h x 1 (l.map zz)):
  ACalls Tryz.prog 128 [i64 lo,i64 b,x] h λr h'=>r=bl (yK lo b l)/\h'=h:=by
 refine zf Tryz.f128 [.tmp 6] 11 rfl rfl rfl rfl rfl rfl (by decide) (⟨_,_,⟨rfl,rfl⟩,.refl⟩) λB=>?_
 simp only[go_sem]
 refine zc (c98 _ x 193 _ (l.map zz) (λr=>W5 lo b (XH r)) (by simpa using d) (by simp[zz]) (c.app _) ?_) ?_
 ·intro row a L
  obtain ⟨n,_,rfl⟩:=List.mem_map.1 a
  refine c99 _ _ _ lo b n ?_ ?_
  all_goals simp only[go_sem]
 ·rintro _ f ⟨rfl,e⟩
  subst e
  simp only[go_sem]
  (first | refine zd ?_ | refine ze ?_ (by rfl))<;>(simp only[go_sem,yK,List.any_map,Function.comp_def,zz,XH]<;>try rfl)
def J7 (p:zF):Bool:=decide (p.1<0) || !rok p
theorem YQa (p:zF) (a:qj p):ji Tryz.prog 196 [rat p] (bl (J7 p)):=λh=>by
 refine zf Tryz.f196 [.tmp 2] 11 rfl rfl rfl rfl rfl rfl (by decide) (⟨_,_,⟨rfl,rfl⟩,.refl⟩) λB=>?_
 simp only[go_sem]
 refine ways (λe=>?_) (λe=>?_)
 ·have e:=xk e
  simp only[go_sem,e]
  refine zc (c27 p a.1 a.2 _) ?_
  rintro _ c ⟨rfl,b⟩
  subst b
  simp only[go_sem,e]
  (first | refine zd ?_ | refine ze ?_ (by rfl))<;>(simp only[go_sem,J7,e]<;>try rfl)
 ·have e:=xj e
  simp only[go_sem,e]
  (first | refine zd ?_ | refine ze ?_ (by rfl))<;>(simp only[go_sem,J7,e]<;>try rfl)
def Zea:List AV->zF
 | [.v (.int _ n),.v (.int _ d)]=>(n,d)
 | _=>(0,0)
def QM (l:List zF):Bool:= !l.any J7
theorem c80 (h:List Ob) (x:AV) (l:List zF) (d:∀p∈l,qj p) (e:l.length<9223372036854775808) (b:SlOf h x 2 (l.map qz)):
  ACalls Tryz.prog 131 [x] h λr h'=>r=bl (QM l)/\h'=h:=by
 refine zf Tryz.f131 [.tmp 2] 6 rfl rfl rfl rfl rfl rfl (by decide) (⟨_,_,⟨rfl,rfl⟩,.refl⟩) λB=>?_
 simp only[go_sem]
 refine zc (YNa _ x 196 _ (l.map qz) (λr=>J7 (Zea r)) (by simpa using e) (λr f=>by obtain ⟨p,_,rfl⟩:=List.mem_map.1 f;rfl) b ?_) ?_
 ·intro row a L
  obtain ⟨p,g,rfl⟩:=List.mem_map.1 a
  exact YQa p (d p g) _
 ·rintro _ i ⟨rfl,c⟩
  subst c
  simp only[go_sem]
  (first | refine zd ?_ | refine ze ?_ (by rfl))<;>(simp only[go_sem,QM,List.any_map,Function.comp_def,qz,Zea]<;>try rfl)
abbrev Way:=Int × Int × Int
def ZM (w:Way):List AV:=[i64 w.1,i64 w.2.1,i64 w.2.2]
def Zfa:List AV->Way
 | [.v (.int _ a),.v (.int _ b),.v (.int _ m)]=>(a,b,m)
 | _=>(0,0,0)
abbrev Elt:=zF × zF
def ZN (e:Elt):List AV:=[i64 e.1.1,i64 e.1.2,i64 e.2.1,i64 e.2.2]
def xFa:List AV->Elt
 | [.v (.int _ a),.v (.int _ b),.v (.int _ c),.v (.int _ d)]=>((a,b),(c,d))
 | _=>((0,0),(0,0))
abbrev XI:=Int × Int
structure Setup where
 places:Int
 ways:List Way
 pace:zF
 elements:List Elt
 classes:List zF
 gears:List zF
 allow:Int
 unit:Int
 cap:Int
 paidBreak:Int
 autoAfter:Int
 autoBreak:Int
 dayReg:Int
 dayOver:Int
 weekReg:Int
 nightFrom:Int
 nightTo:Int
 rates:List Int
 diff:Int
 least:Int
 fault:Int
 tiers:List XI
structure SA where
 w:AV
 e:AV
 c:AV
 g:AV
 r:AV
 t:AV
abbrev zr (s:Setup) (a:SA):List AV:=[i64 s.places,a.w,i64 s.pace.1,i64 s.pace.2,a.e,a.c,a.g,i64 s.allow,i64 s.unit,i64 s.cap,i64 s.paidBreak,i64 s.autoAfter,i64 s.autoBreak,
 i64 s.dayReg,i64 s.dayOver,i64 s.weekReg,i64 s.nightFrom,i64 s.nightTo,a.r,i64 s.diff,i64 s.least,i64 s.fault,a.t]
abbrev z6 (s:Setup) (a:SA):AV:= .ag (zr s a)
structure SIn (h:List Ob) (s:Setup) (a:SA):Prop where
 w:SlOf h a.w 3 (s.ways.map ZM)
 e:SlOf h a.e 4 (s.elements.map ZN)
 c:SlOf h a.c 2 (s.classes.map qz)
 g:SlOf h a.g 2 (s.gears.map qz)
 r:SlOf h a.r 1 (s.rates.map zz)
 t:SlOf h a.t 2 (s.tiers.map qz)
theorem SIn.app {h:List Ob} {s:Setup} {a:SA} (k:SIn h s a) (L:List Ob):SIn (h++L) s a:=⟨k.w.app L,k.e.app L,k.c.app L,k.g.app L,k.r.app L,k.t.app L⟩
structure SFit (s:Setup):Prop where
 places:Fit s.places
 pace:qj s.pace
 elements:∀e∈s.elements,qj e.1/\qj e.2
 classes:∀p∈s.classes,qj p
 gears:∀p∈s.gears,qj p
 tiers:∀t∈s.tiers,qj t
 nw:s.ways.length<9223372036854775808
 ne:s.elements.length<9223372036854775808
 nc:s.classes.length<9223372036854775808
 ng:s.gears.length<9223372036854775808
 nr:s.rates.length<9223372036854775808
 nt:s.tiers.length<9223372036854775808
def Z5 (places:Int) (w:Way):Bool:= !yK 0 (wr (places - 1)) [w.1,w.2.1] || w.1==w.2.1 || !yK 1 10000 [w.2.2]
theorem c76 (h:List Ob) (i:Nat) (s:Setup) (a:SA) (w:Way) (c:h[i]? =some (.box 30 (zr s a))):
  ACalls Tryz.prog 127 [.ag (ZM w),.ptr i 0] h λr h'=>r=bl (Z5 s.places w)/\h'=h:=by
 refine zf Tryz.f127 [.tmp 3] 28 rfl rfl rfl rfl rfl rfl (by decide) (⟨_,_,⟨rfl,rfl⟩,.refl⟩) λB=>?_
 simp only[go_sem,c,ZM]
 have g:∀M,(h++M)[i]? =some (.box 30 (zr s a)):=λM=>zb c
 simp only[go_sem,g]
 refine zc (c77 _ _ 0 _ [w.1,w.2.1] (by simp) ⟨by simp only[go_sem,zz],λ_=>by simp only[go_sem,zz]⟩) ?_
 rintro _ f ⟨rfl,d⟩
 subst d
 simp only[go_sem]
 refine ways (λe=>?_) (λe=>?_)
 ·have e:=xk e
  simp only[go_sem,e]
  refine ways (λb=>?_) (λb=>?_)
  ·have b:=xk b
   simp only[go_sem,e,b]
   refine zc (c77 _ _ 1 10000 [w.2.2] (by simp) ⟨by simp only[go_sem,zz],λ_=>by simp only[go_sem,zz]⟩) ?_
   rintro _ f ⟨rfl,d⟩
   subst d
   simp only[go_sem,e,b]
   (first | refine zd ?_ | refine ze ?_ (by rfl))<;>(simp only[go_sem,Z5,e,b]<;>try rfl)
  ·have b:=xj b
   simp only[go_sem,e,b]
   (first | refine zd ?_ | refine ze ?_ (by rfl))<;>(simp only[go_sem,Z5,e,b]<;>try rfl)
 ·have e:=xj e
  simp only[go_sem,e]
  (first | refine zd ?_ | refine ze ?_ (by rfl))<;>(simp only[go_sem,Z5,e]<;>try rfl)
def vQ (s:Setup):Bool:=yK 1 16 [s.places] && decide ((s.ways.length:Int)<=64) && !s.ways.any (Z5 s.places)
theorem c47 (h:List Ob) (s:Setup) (a:SA) (k:SIn h s a) (f:SFit s):ACalls Tryz.prog 59 [z6 s a] h λr h'=>r=bl (vQ s)/\h'=h:=by
 refine zf Tryz.f59 [.tmp 2] 22 rfl rfl rfl rfl rfl rfl (by decide) (⟨_,_,⟨rfl,rfl⟩,.refl⟩) λB=>?_
 simp only[go_sem,k.w.one,k.e.one,k.c.one,k.g.one,k.r.one,k.t.one]
 refine zc (c77 _ _ 1 16 [s.places] (by simp) ⟨by simp only[go_sem,zz],λ_=>by simp only[go_sem,zz]⟩) ?_
 rintro _ j ⟨rfl,i⟩
 subst i
 simp only[go_sem]
 refine ways (λe=>?_) (λe=>?_)
 ·have e:=jr e
  simp only[go_sem,e,(k.app _).w.rows,List.length_map]
  refine ways (λb=>?_) (λb=>?_)
  ·have b:=jr b
   simp only[go_sem,e,b]
   refine zc (c78 _ a.w 127 _ (s.ways.map ZM) (λr=>Z5 s.places (Zfa r)) (by simpa using f.nw) (λr l=>by obtain ⟨p,_,rfl⟩:=List.mem_map.1 l;rfl) (k.app _).w ?_) ?_
   ·intro row d L
    obtain ⟨p,m,rfl⟩:=List.mem_map.1 d
    refine c76 _ _ s a p ?_
    simp only[go_sem]
   ·rintro _ j ⟨rfl,i⟩
    subst i
    simp only[go_sem]
    (first | refine zd ?_ | refine ze ?_ (by rfl))<;>(simp only[go_sem,vQ,e,b,List.any_map,Function.comp_def,ZM,Zfa]<;>try rfl)
  ·have b:=jq b
   simp only[go_sem,e,b]
   (first | refine zd ?_ | refine ze ?_ (by rfl))<;>(simp only[go_sem,vQ,e,b]<;>try rfl)
 ·have e:=jq e
  simp only[go_sem,e]
  (first | refine zd ?_ | refine ze ?_ (by rfl))<;>(simp only[go_sem,vQ,e]<;>try rfl)
def XJ (e:Elt):Bool:= !QM [e.1,e.2]
theorem c79 (e:Elt) (a:qj e.1/\qj e.2):ji Tryz.prog 130 [.ag (ZN e)] (bl (XJ e)):=λh=>by
 refine zf Tryz.f130 [.tmp 2] 10 rfl rfl rfl rfl rfl rfl (by decide) (⟨_,_,⟨rfl,rfl⟩,.refl⟩) λB=>?_
 simp only[go_sem,ZN]
 refine zc (c80 _ _ [e.1,e.2] (by simpa using a) (by simp) ⟨by simp only[go_sem,qz],λ_=>by simp only[go_sem,qz]⟩) ?_
 rintro _ c ⟨rfl,b⟩
 subst b
 simp only[go_sem]
 (first | refine zd ?_ | refine ze ?_ (by rfl))<;>(simp only[go_sem,XJ]<;>try rfl)
def Jha (a b c:Int):Int:=if c>(if b>a then b else a) then c else (if b>a then b else a)
def vR (s:Setup):Bool:=QM [s.pace] && QM s.classes && QM s.gears && !s.elements.any XJ && decide (Jha s.elements.length s.classes.length s.gears.length<=8)
theorem c48 (h:List Ob) (s:Setup) (a:SA) (k:SIn h s a) (f:SFit s):ACalls Tryz.prog 60 [z6 s a] h λr h'=>r=bl (vR s)/\h'=h:=by
 refine zf Tryz.f60 [.tmp 2] 38 rfl rfl rfl rfl rfl rfl (by decide) (⟨_,_,⟨rfl,rfl⟩,.refl⟩) λB=>?_
 simp only[go_sem,k.w.one,k.e.one,k.c.one,k.g.one,k.r.one,k.t.one]
 refine zc (c80 _ _ [s.pace] (by simpa using f.pace) (by simp) ⟨by simp only[go_sem,qz],λ_=>by simp only[go_sem,qz]⟩) ?_
 rintro _ n ⟨rfl,j⟩
 subst j
 simp only[go_sem]
 refine ways (λe=>?_) (λe=>?_)
 ·have e:=jr e
  simp only[go_sem,e]
  refine zc (c80 _ a.c s.classes f.classes f.nc (k.app _).c) ?_
  rintro _ n ⟨rfl,j⟩
  subst j
  simp only[go_sem,e]
  refine ways (λb=>?_) (λb=>?_)
  ·have b:=jr b
   simp only[go_sem,e,b]
   refine zc (c80 _ a.g s.gears f.gears f.ng (k.app _).g) ?_
   rintro _ n ⟨rfl,j⟩
   subst j
   simp only[go_sem,e,b]
   refine ways (λd=>?_) (λd=>?_)
   ·have d:=jr d
    simp only[go_sem,e,b,d]
    refine zc (c81 _ a.e 130 _ (s.elements.map ZN) (λr=>XJ (xFa r)) (by simpa using f.ne) (λr o=>by obtain ⟨p,_,rfl⟩:=List.mem_map.1 o;rfl) (k.app _).e ?_) ?_
    ·intro row m L
     obtain ⟨p,q,rfl⟩:=List.mem_map.1 m
     exact c79 p (f.elements p q) _
    ·rintro _ n ⟨rfl,j⟩
     subst j
     have l:(s.elements.map ZN).any (λr=>XJ (xFa r))=s.elements.any XJ:=by simp only[List.any_map,Function.comp_def,ZN,xFa]
     simp only[go_sem,l,e,b,d]
     refine ways (λi=>?_) (λi=>?_)
     ·have i:=jr i
      simp only[go_sem,e,b,d,i,(k.app _).e.rows,(k.app _).c.rows,(k.app _).g.rows,List.length_map]
      (first | refine zd ?_ | refine ze ?_ (by rfl))<;>(simp only[go_sem,vR,e,b,d,i,Jha]<;>try rfl)
     ·have i:=jq i
      simp only[go_sem,e,b,d,i]
      (first | refine zd ?_ | refine ze ?_ (by rfl))<;>(simp only[go_sem,vR,e,b,d,i]<;>try rfl)
   ·have d:=jq d
    simp only[go_sem,e,b,d]
    (first | refine zd ?_ | refine ze ?_ (by rfl))<;>(simp only[go_sem,vR,e,b,d]<;>try rfl)
  ·have b:=jq b
   simp only[go_sem,e,b]
   (first | refine zd ?_ | refine ze ?_ (by rfl))<;>(simp only[go_sem,vR,e,b]<;>try rfl)
 ·have e:=jq e
  simp only[go_sem,e]
  (first | refine zd ?_ | refine ze ?_ (by rfl))<;>(simp only[go_sem,vR,e]<;>try rfl)
set_option maxRecDepth 100000
def kZ (s:Setup):Bool:=yK 0 100 [s.allow] && yK 1 3600 [s.unit] && yK 60 57600 [s.cap] && yK 0 86400 [s.paidBreak,s.autoAfter,s.autoBreak,s.nightFrom,s.nightTo,s.fault,s.dayOver] && yK 0 s.dayOver [s.dayReg] && yK 0 604800 [s.weekReg]
theorem c49 (h:List Ob) (s:Setup) (a:SA) (k:SIn h s a) (f:SFit s):ACalls Tryz.prog 61 [z6 s a] h λr h'=>r=bl (kZ s)/\h'=h:=by
 refine zf Tryz.f61 [.tmp 2] 51 rfl rfl rfl rfl rfl rfl (by decide) (⟨_,_,⟨rfl,rfl⟩,.refl⟩) λB=>?_
 simp only[go_sem,k.w.one,k.e.one,k.c.one,k.g.one,k.r.one,k.t.one]
 refine zc (c77 _ _ 0 100 [s.allow] (by simp) ⟨by simp only[go_sem,zz],λ_=>by simp only[go_sem,zz]⟩) ?_
 rintro _ n ⟨rfl,l⟩
 subst l
 simp only[go_sem]
 refine ways (λb=>?_) (λb=>?_)
 ·have b:=jr b
  simp only[go_sem,b]
  refine zc (c77 _ _ 1 3600 [s.unit] (by simp) ⟨by simp only[go_sem,zz],λ_=>by simp only[go_sem,zz]⟩) ?_
  rintro _ n ⟨rfl,l⟩
  subst l
  simp only[go_sem,b]
  refine ways (λd=>?_) (λd=>?_)
  ·have d:=jr d
   simp only[go_sem,b,d]
   refine zc (c77 _ _ 60 57600 [s.cap] (by simp) ⟨by simp only[go_sem,zz],λ_=>by simp only[go_sem,zz]⟩) ?_
   rintro _ n ⟨rfl,l⟩
   subst l
   simp only[go_sem,b,d]
   refine ways (λi=>?_) (λi=>?_)
   ·have i:=jr i
    simp only[go_sem,b,d,i]
    refine zc (c77 _ _ 0 86400 [s.paidBreak,s.autoAfter,s.autoBreak,s.nightFrom,s.nightTo,s.fault,s.dayOver] (by simp) ⟨by simp only[go_sem,zz],λ_=>by simp only[go_sem,zz]⟩) ?_
    rintro _ n ⟨rfl,l⟩
    subst l
    simp only[go_sem,b,d,i]
    refine ways (λj=>?_) (λj=>?_)
    ·have j:=jr j
     simp only[go_sem,b,d,i,j]
     refine zc (c77 _ _ 0 _ [s.dayReg] (by simp) ⟨by simp only[go_sem,zz],λ_=>by simp only[go_sem,zz]⟩) ?_
     rintro _ n ⟨rfl,l⟩
     subst l
     simp only[go_sem,b,d,i,j]
     refine ways (λm=>?_) (λm=>?_)
     ·have m:=jr m
      simp only[go_sem,b,d,i,j,m]
      refine zc (c77 _ _ 0 604800 [s.weekReg] (by simp) ⟨by simp only[go_sem,zz],λ_=>by simp only[go_sem,zz]⟩) ?_
      rintro _ n ⟨rfl,l⟩
      subst l
      simp only[go_sem,b,d,i,j,m]
      (first | refine zd ?_ | refine ze ?_ (by rfl))<;>(simp only[go_sem,kZ,b,d,i,j,m]<;>try rfl)
     ·have m:=jq m
      simp only[go_sem,b,d,i,j,m]
      (first | refine zd ?_ | refine ze ?_ (by rfl))<;>(simp only[go_sem,kZ,b,d,i,j,m]<;>try rfl)
    ·have j:=jq j
     simp only[go_sem,b,d,i,j]
     (first | refine zd ?_ | refine ze ?_ (by rfl))<;>(simp only[go_sem,kZ,b,d,i,j]<;>try rfl)
   ·have i:=jq i
    simp only[go_sem,b,d,i]
    (first | refine zd ?_ | refine ze ?_ (by rfl))<;>(simp only[go_sem,kZ,b,d,i]<;>try rfl)
  ·have d:=jq d
   simp only[go_sem,b,d]
   (first | refine zd ?_ | refine ze ?_ (by rfl))<;>(simp only[go_sem,kZ,b,d]<;>try rfl)
 ·have b:=jq b
  simp only[go_sem,b]
  (first | refine zd ?_ | refine ze ?_ (by rfl))<;>(simp only[go_sem,kZ,b]<;>try rfl)
def yn (last:Int) (t:XI):Bool:=decide (t.1<=last) || decide (t.1>1000) || !yK 0 100000 [t.2]
theorem c82 (h:List Ob) (i:Nat) (last:Int) (t:XI) (c:h[i]? =some (.box 3 [i64 last])):
  ACalls Tryz.prog 133 [.ag (qz t),.ptr i 0] h λr h'=>r=bl (yn last t)/\h'=h.set i (.box 3 [i64 t.1]):=by
 have d:∀M,(h++M)[i]? =some (.box 3 [i64 last]):=λM=>zb c
 have g:∀M o,(h++M).set i o=h.set i o++M:=λM o=>qd c
 have fin:∀(T:Env) (M:List Ob) (b:Bool),T 3=bl b->b=yn last t->vGa Tryz.prog [.tmp 3] h (λr h'=>r=bl (yn last t)/\h'=h.set i (.box 3 [i64 t.1])) .ret T (h.set i (.box 3 [i64 t.1])++M):=λT M b j f=>
  ⟨bl b,by simp only[go_sem,j],.inr ⟨_,M,rfl,by simp,rfl,KeepLt.refl.set rfl rfl,by rw[f],rfl⟩⟩
 refine zf Tryz.f133 [.tmp 3] 24 rfl rfl rfl rfl rfl rfl (by decide) (⟨_,_,⟨rfl,rfl⟩,zC c rfl⟩) λB=>?_
 simp only[go_sem,c,qz,d]
 refine ways (λe=>?_) (λe=>?_)
 ·have e:=xk e
  simp only[go_sem,e]
  refine ways (λa=>?_) (λa=>?_)
  ·have a:=xk a
   simp only[go_sem,e,a]
   refine zc (c77 _ _ 0 100000 [t.2] (by simp) ⟨by simp only[go_sem,zz],λ_=>by simp only[go_sem,zz]⟩) ?_
   rintro _ k ⟨rfl,f⟩
   subst f
   simp only[go_sem,e,a,d,g]
   refine fin _ _ (!yK 0 100000 [t.2]) ?_ ?_
   ·simp only[go_sem]
   ·simp only[yn,e,a,Bool.false_or]
  ·have a:=xj a
   simp only[go_sem,e,a,d,g]
   refine fin _ _ true ?_ ?_
   ·simp only[go_sem]
   ·simp only[yn,e,a,Bool.false_or,Bool.true_or]
 ·have e:=xj e
  simp only[go_sem,e,d,g]
  refine fin _ _ true ?_ ?_
  ·simp only[go_sem]
  ·simp only[yn,e,Bool.true_or]
def xu:Int->List XI->Bool
 | _,[]=>false
 | last,t::l=>yn last t || xu t.1 l
theorem YRa (h:List Ob) (x:AV) (i:Nat) (last:Int) (l:List XI) (H:l.length<9223372036854775808) (C:∀o,SlOf (h.set i o) x 2 (l.map qz)) (d:h[i]? =some (.box 3 [i64 last])):
  ACalls Tryz.prog 198 [x,.fn (.func 133) [] [.ptr i 0]] h λr h'=>∃n m,r=i64 n/\h'=h.set i (.box 3 [i64 m])/\decide (n≥0)=xu last l:=by
 have c:h.set i (.box 3 [i64 last])=h:=by
  apply List.ext_getElem?
  intro j
  by_cases D:j=i
  ·subst D;rw[zh d,d]
  ·rw[List.getElem?_set_ne (λe=>D e.symm)]
 have s:=C (.box 3 [i64 last])
 rw[c] at s
 refine zf Tryz.f198 [.tmp 4] 19 rfl rfl rfl rfl rfl rfl (by decide) (⟨_,_,⟨if xu last l then 0 else -1,last,rfl,rfl,by split<;>simp_all⟩,zC d rfl⟩) λB=>?_
 simp only[go_sem,s.rows,List.length_map]
 refine zj (by decide) (λn T h'=>∃(k:Nat) (f:Int),h'=h.set i (.box 3 [i64 f])/\T 0=x/\T 1= .fn (.func 133) [] [.ptr i 0]/\T 7=i64 l.length/\T 8=i64 k/\k<=l.length/\xu last l=xu f (l.drop k)/\n=l.length - k) l.length
  ⟨0,last,c.symm,by simp only[go_sem],by simp only[go_sem],by simp only[go_sem],by (simp only[go_sem]<;>rfl),by omega,rfl,rfl⟩ ?_
 rintro n T h' ⟨k,f,rfl,t0,t1,u,t8,F,h0,rfl⟩
 have A:=zh (b:=Ob.box 3 [i64 f]) d
 have q:∀o,(h.set i (.box 3 [i64 f])).set i o=h.set i o:=λo=>List.set_set ..
 have p:=C (.box 3 [i64 f])
 simp only[go_sem,u,t8]
 refine ways (λv=>?_) (λv=>?_)
 ·have a:k<l.length:=by simpa using v
  have w:=p.at (i:=k) (by simpa using a)
  have g:(l.map qz)[k]? =some (qz l[k]):=by simp[a]
  have z:(k:Int)<l.length:=by omega
  have y:=c82 (h.set i (.box 3 [i64 f])) i f l[k] A
  rw[q] at y
  simp only[qz] at g y
  rw[List.drop_eq_getElem_cons a] at h0
  simp only[go_sem,w,p.rows,g,z,t0,t1,u,t8,Int.toNat_natCast,Int.natCast_nonneg,List.length_map]
  refine zc y ?_
  rintro _ G ⟨rfl,E⟩
  subst E
  simp only[go_sem]
  refine ways (λt=>?_) (λt=>?_)
  ·simp only[go_sem,t8]
   exact ⟨i64 k,by simp only[go_sem],.inl ⟨k,l[k].1,rfl,rfl,by rw[h0];simp[xu,t]⟩⟩
  ·simp only[go_sem,t8,jk (show k<9223372036854775807 by omega)]
   refine ⟨l.length - (k+1),by omega,k+1,l[k].1,rfl,t0,t1,u,rfl,by omega,?_,rfl⟩
   rw[h0];simp[xu,t]
 ·have a:k=l.length:=by
   have:¬ (k:Int)<l.length:=by simpa using v
   omega
  rw[a,List.drop_length] at h0
  simp only[go_sem]
  exact ⟨i64 (-1),by simp only[go_sem],.inl ⟨-1,f,rfl,rfl,by rw[h0];rfl⟩⟩
theorem c83 (h:List Ob) (x:AV) (i:Nat) (last:Int) (l:List XI) (f:l.length<9223372036854775808) (d:∀o,SlOf (h.set i o) x 2 (l.map qz)) (b:h[i]? =some (.box 3 [i64 last])):
  ACalls Tryz.prog 134 [x,.fn (.func 133) [] [.ptr i 0]] h λr h'=>r=bl (xu last l)/\∃a,h'=h.set i (.box 3 [i64 a]):=by
 refine zf Tryz.f134 [.tmp 4] 9 rfl rfl rfl rfl rfl rfl (by decide) (⟨_,_,⟨rfl,last,rfl⟩,zC b rfl⟩) λB=>?_
 simp only[go_sem]
 refine zc (YRa h x i last l f d b) ?_
 rintro _ j ⟨n,c,rfl,g,e⟩
 subst g
 simp only[go_sem,e]
 exact ⟨bl (xu last l),by simp only[go_sem],.inl ⟨rfl,c,rfl⟩⟩
def vK (s:Setup):Bool:=decide ((s.rates.length:Int)>0) && decide ((s.rates.length:Int)<=16) && yK 0 100000 s.rates && yK 0 100000 [s.diff,s.least] && decide ((s.tiers.length:Int)<=8) && !xu (-1) s.tiers
theorem c50 (h:List Ob) (s:Setup) (a:SA) (k:SIn h s a) (f:SFit s):ACalls Tryz.prog 62 [z6 s a] h λr h'=>r=bl (vK s)/\h'=h:=by
 refine zf Tryz.f62 [.tmp 2] 42 rfl rfl rfl rfl rfl rfl (by decide) (⟨_,_,⟨rfl,rfl⟩,.refl⟩) λB=>?_
 simp only[go_sem,k.w.one,k.e.one,k.c.one,k.g.one,k.r.one,k.t.one,(k.app _).r.rows,List.length_map]
 refine ways (λb=>?_) (λb=>?_)
 ·have b:=jr b
  simp only[go_sem,b,(k.app _).r.rows,(k.app _).t.rows,List.length_map]
  refine ways (λd=>?_) (λd=>?_)
  ·have d:=jr d
   simp only[go_sem,b,d,(k.app _).r.rows,(k.app _).t.rows,List.length_map]
   refine zc (c77 _ a.r 0 100000 s.rates f.nr (k.app _).r) ?_
   rintro _ n ⟨rfl,m⟩
   subst m
   simp only[go_sem,b,d,(k.app _).r.rows,(k.app _).t.rows,List.length_map]
   refine ways (λi=>?_) (λi=>?_)
   ·have i:=jr i
    simp only[go_sem,b,d,i,(k.app _).r.rows,(k.app _).t.rows,List.length_map]
    refine zc (c77 _ _ 0 100000 [s.diff,s.least] (by simp) ⟨by simp only[go_sem,zz],λ_=>by simp only[go_sem,zz]⟩) ?_
    rintro _ n ⟨rfl,m⟩
    subst m
    simp only[go_sem,b,d,i,(k.app _).r.rows,(k.app _).t.rows,List.length_map]
    refine ways (λj=>?_) (λj=>?_)
    ·have j:=jr j
     simp only[go_sem,b,d,i,j,(k.app _).r.rows,(k.app _).t.rows,List.length_map]
     refine ways (λl=>?_) (λl=>?_)
     ·have l:=jr l
      simp only[go_sem,b,d,i,j,l,(k.app _).r.rows,(k.app _).t.rows,List.length_map]
      refine zc (c83 _ a.t _ (-1) s.tiers f.nt (λo=>by simp only[go_sem];exact (k.app _).t) (by simp only[go_sem])) ?_
      rintro _ n ⟨rfl,p,m⟩
      subst m
      simp only[go_sem,b,d,i,j,l,(k.app _).r.rows,(k.app _).t.rows,List.length_map]
      (first | refine zd ?_ | refine ze ?_ (by rfl))<;>(simp only[go_sem,vK,b,d,i,j,l,(k.app _).r.rows,(k.app _).t.rows,List.length_map]<;>try rfl)
     ·have l:=jq l
      simp only[go_sem,b,d,i,j,l]
      (first | refine zd ?_ | refine ze ?_ (by rfl))<;>(simp only[go_sem,vK,b,d,i,j,l]<;>try rfl)
    ·have j:=jq j
     simp only[go_sem,b,d,i,j]
     (first | refine zd ?_ | refine ze ?_ (by rfl))<;>(simp only[go_sem,vK,b,d,i,j]<;>try rfl)
   ·have i:=jq i
    simp only[go_sem,b,d,i]
    (first | refine zd ?_ | refine ze ?_ (by rfl))<;>(simp only[go_sem,vK,b,d,i]<;>try rfl)
  ·have d:=jq d
   simp only[go_sem,b,d]
   (first | refine zd ?_ | refine ze ?_ (by rfl))<;>(simp only[go_sem,vK,b,d]<;>try rfl)
 ·have b:=jq b
  simp only[go_sem,b]
  (first | refine zd ?_ | refine ze ?_ (by rfl))<;>(simp only[go_sem,vK,b]<;>try rfl)
def zw (s:Setup):Bool:=vQ s && vR s && kZ s && vK s
theorem c16 (h:List Ob) (s:Setup) (a:SA) (k:SIn h s a) (f:SFit s):ACalls Tryz.prog 21 [z6 s a] h λr h'=>r=bl (zw s)/\h'=h:=by
 refine zf Tryz.f21 [.tmp 2] 17 rfl rfl rfl rfl rfl rfl (by decide) (⟨_,_,⟨rfl,rfl⟩,.refl⟩) λB=>?_
 simp only[go_sem,k.w.one,k.e.one,k.c.one,k.g.one,k.r.one,k.t.one]
 refine zc (c47 _ s a (k.app _) f) ?_
 rintro _ l ⟨rfl,j⟩
 subst j
 simp only[go_sem]
 refine ways (λb=>?_) (λb=>?_)
 ·have b:=jr b
  simp only[go_sem,b]
  refine zc (c48 _ s a (k.app _) f) ?_
  rintro _ l ⟨rfl,j⟩
  subst j
  simp only[go_sem,b]
  refine ways (λd=>?_) (λd=>?_)
  ·have d:=jr d
   simp only[go_sem,b,d]
   refine zc (c49 _ s a (k.app _) f) ?_
   rintro _ l ⟨rfl,j⟩
   subst j
   simp only[go_sem,b,d]
   refine ways (λi=>?_) (λi=>?_)
   ·have i:=jr i
    simp only[go_sem,b,d,i]
    refine zc (c50 _ s a (k.app _) f) ?_
    rintro _ l ⟨rfl,j⟩
    subst j
    simp only[go_sem,b,d,i]
    (first | refine zd ?_ | refine ze ?_ (by rfl))<;>(simp only[go_sem,zw,b,d,i]<;>try rfl)
   ·have i:=jq i
    simp only[go_sem,b,d,i]
    (first | refine zd ?_ | refine ze ?_ (by rfl))<;>(simp only[go_sem,zw,b,d,i]<;>try rfl)
  ·have d:=jq d
   simp only[go_sem,b,d]
   (first | refine zd ?_ | refine ze ?_ (by rfl))<;>(simp only[go_sem,zw,b,d]<;>try rfl)
 ·have b:=jq b
  simp only[go_sem,b]
  (first | refine zd ?_ | refine ze ?_ (by rfl))<;>(simp only[go_sem,zw,b]<;>try rfl)
set_option maxRecDepth 100000
attribute [go_sem] QRa QSa XHa XLa XAa XMa V9a
structure Ev where
 id:Int
 worker:Int
 at_:Int
 kind:Int
 from_:Int
 to_:Int
 element:Int
 units:Int
 class_:Int
 gear:Int
 code:Int
abbrev evC (e:Ev):List AV:=[i64 e.id,i64 e.worker,i64 e.at_,i64 e.kind,i64 e.from_,i64 e.to_,i64 e.element,i64 e.units,i64 e.class_,i64 e.gear,i64 e.code]
abbrev evV (e:Ev):AV:= .ag (evC e)
def kn (i:Nat) (k:Int):List (List AV):=if k=3 then [[.ptr i 4],[.ptr i 5],[.ptr i 6],[.ptr i 7],[.ptr i 8],[.ptr i 9]] else if k=4 then [[.ptr i 10]] else []
def XK (k:Int):Bool:=1==k || (2==k || (3==k || (4==k || (5==k || (6==k || 7==k)))))
theorem c71 (h:List Ob) (i:Nat) (e:Ev) (b:h[i]? =some (.box 73 (evC e))):
  ACalls Tryz.prog 161 [.ptr i 0] h λr h'=>∃L x,h'=h++L/\r= .tup [x,bl (XK e.kind)]/\∀a:List Ob,a.length=h.length->SlOf (a++L) x 1 (kn i e.kind):=by
 have d:∀M,(h++M)[i]? =some (.box 73 (evC e)):=λM=>zb b
 refine zf Tryz.f161 [.tmp 2,.tmp 3] 43 rfl rfl rfl rfl rfl rfl (by decide) (⟨_,h,⟨[],.sl 1 _,by simp,rfl,λ_ _=>⟨rfl,λ_=>rfl⟩⟩,.refl⟩) λB=>?_
 simp only[go_sem,b]
 refine zn rfl [.res,.res,.res] 3 [(6,0,[]),(7,0,[]),(8,0,[]),(9,0,[]),(10,0,[]),(11,0,[]),(12,0,[]),(13,0,[]),(14,0,[]),(15,0,[]),(16,0,[]),(17,0,[]),(18,0,[]),(19,0,[]),(20,0,[]),(21,0,[]),(22,0,[]),(23,0,[]),(26,0,[]),(27,0,[]),(28,0,[]),(0,0,[]),(1,0,[]),(2,0,[]),(3,0,[]),(4,0,[]),(5,0,[]),(24,1,[]),(25,0,[]),(29,2,[]),(30,0,[]),(31,0,[]),(32,0,[])] rfl (by decide) (by decide) ?_
 simp only[go_sem,d]
 refine ⟨.tup [if 1=e.kind then AV.v (Value.slice none 0 0) else if 2=e.kind then AV.v (Value.slice none 0 0) else if 3=e.kind then AV.tl (h.length+1) 0 else if 4=e.kind then AV.tl (h.length+2) 0 else if 5=e.kind then AV.v (Value.slice none 0 0) else if 6=e.kind then AV.v (Value.slice none 0 0) else if 7=e.kind then AV.v (Value.slice none 0 0) else AV.v (Value.slice none 0 0),bl (XK e.kind)],by simp only[go_sem,XK]<;>rfl,.inl ⟨_,_,rfl,rfl,λa c=>?_⟩⟩
 rw[<-c]
 by_cases k1:e.kind=3
 ·rw[kn,if_pos k1,k1]
  exact ⟨by simp only[go_sem],λ_=>by simp only[go_sem]⟩
 ·by_cases k2:e.kind=4
  ·rw[kn,if_neg k1,if_pos k2,k2]
   exact ⟨by simp only[go_sem],λ_=>by simp only[go_sem]⟩
  ·rw[kn,if_neg k1,if_neg k2]
   have a1:¬ 3=e.kind:=λh=>k1 h.symm
   have a2:¬ 4=e.kind:=λh=>k2 h.symm
   simp only[if_neg a1,if_neg a2,ite_self]
   exact ⟨rfl,λh=>absurd rfl h⟩
def Zf (n a:Int):Bool:=decide (n≥0) && decide (n<=a)
theorem c72 (n a:Int):ji Tryz.prog 162 [i64 n,i64 a] (bl (Zf n a)):=λh=>by
 refine zf Tryz.f162 [.tmp 4] 12 rfl rfl rfl rfl rfl rfl (by decide) (⟨_,_,⟨rfl,rfl⟩,.refl⟩) λB=>?_
 simp only[go_sem]
 refine ways (λe=>?_) (λe=>?_)
 ·have e:=jr e
  simp only[go_sem,e]
  (first | refine zd ?_ | refine ze ?_ (by rfl))<;>(simp only[go_sem,Zf,e]<;>try rfl)
 ·have e:=jq e
  simp only[go_sem,e]
  (first | refine zd ?_ | refine ze ?_ (by rfl))<;>(simp only[go_sem,Zf,e]<;>try rfl)
theorem Wea (n:Int):ji Tryz.prog 177 [i64 n] (bl false):=λh=>by
 refine zf Tryz.f177 [.tmp 2] 6 rfl rfl rfl rfl rfl rfl (by decide) (⟨_,_,⟨rfl,rfl⟩,.refl⟩) λB=>?_
 simp only[go_sem]
 (first | refine zd ?_ | refine ze ?_ (by rfl))<;>(simp only[go_sem,bne_self_eq_false]<;>try rfl)
def zza (a b:Int):Int:=if a<b then -1 else if a>b then 1 else 0
theorem c95 (a b:Int):ji Tryz.prog 108 [i64 a,i64 b] (i64 (zza a b)):=λh=>by
 refine zf Tryz.f108 [.tmp 4] 20 rfl rfl rfl rfl rfl rfl (by decide) (⟨_,_,⟨rfl,rfl⟩,.refl⟩) λB=>?_
 simp only[go_sem]
 refine zc (Wea a _) ?_
 rintro _ _ ⟨rfl,rfl⟩
 simp only[go_sem]
 refine zc (Wea b _) ?_
 rintro _ _ ⟨rfl,rfl⟩
 simp only[go_sem]
 refine ways (λe=>?_) (λe=>?_)
 ·simp only[go_sem]
  (first | refine zd ?_ | refine ze ?_ (by rfl))<;>(simp only[go_sem,zza,of_decide_eq_true e]<;>try rfl)
 ·simp only[go_sem]
  refine ways (λc=>?_) (λc=>?_)
  ·simp only[go_sem]
   (first | refine zd ?_ | refine ze ?_ (by rfl))<;>(simp only[go_sem,zza,of_decide_eq_false e,of_decide_eq_true c]<;>try rfl)
  ·simp only[go_sem]
   (first | refine zd ?_ | refine ze ?_ (by rfl))<;>(simp only[go_sem,zza,of_decide_eq_false e,of_decide_eq_false c]<;>try rfl)
def orI:List Int->Int
 | []=>0
 | n::l=>if n≠0 then n else orI l
theorem YSa (h:List Ob) (x:AV) (a b:Int) (c:SlOf h x 1 [[i64 a],[i64 b]]):ACalls Tryz.prog 159 [x] h λr h'=>r=i64 (orI [a,b])/\h'=h:=by
 have j:=c.at (i:=0) (by simp)
 refine zf Tryz.f159 [.tmp 2] 18 rfl rfl rfl rfl rfl rfl (by decide) (⟨_,_,⟨rfl,rfl⟩,.refl⟩) λB=>?_
 simp only[go_sem,c.rows]
 refine vr 3 (jf (by decide) ?_)
 simp only[go_sem,c.rows,j]
 refine ways (λe=>?_) (λe=>?_)
 ·simp only[go_sem]
  have d:¬ a=0:=by simpa using e
  (first | refine zd ?_ | refine ze ?_ (by rfl))<;>(simp only[go_sem,orI,d,ne_eq,not_false_eq_true]<;>try rfl)
 ·have d:a=0:=by simpa using e
  simp only[go_sem]
  refine jf (by decide) ?_
  simp only[go_sem,c.rows,j]
  refine ways (λg=>?_) (λg=>?_)
  ·simp only[go_sem]
   have f:¬ b=0:=by simpa using g
   (first | refine zd ?_ | refine ze ?_ (by rfl))<;>(simp only[go_sem,orI,d,f,ne_eq,not_false_eq_true,not_true_eq_false]<;>try rfl)
  ·have f:b=0:=by simpa using g
   simp only[go_sem]
   refine jf (by decide) ?_
   simp only[go_sem]
   (first | refine zd ?_ | refine ze ?_ (by rfl))<;>(simp only[go_sem,orI,d,f,ne_eq,not_false_eq_true,not_true_eq_false]<;>try rfl)
def Jia (a b:Ev):Int:=orI [zza a.at_ b.at_,zza a.id b.id]
theorem c89 (a b:Ev):ji Tryz.prog 97 [evV a,evV b] (i64 (Jia a b)):=λh=>by
 refine zf Tryz.f97 [.tmp 4] 17 rfl rfl rfl rfl rfl rfl (by decide) (⟨_,_,⟨rfl,rfl⟩,.refl⟩) λB=>?_
 simp only[go_sem]
 refine zn rfl [.res] 1 [(0,0,[]),(2,0,[]),(5,0,[]),(7,0,[]),(1,0,[]),(3,0,[]),(6,0,[]),(8,0,[]),(4,0,[6,8]),(9,0,[]),(10,0,[]),(11,0,[]),(12,0,[])] rfl (by decide) (by decide) ?_
 simp only[go_sem]
 refine zc (c95 a.at_ b.at_ _) ?_
 rintro _ d ⟨rfl,c⟩
 subst c
 simp only[go_sem]
 refine zc (c95 a.id b.id _) ?_
 rintro _ d ⟨rfl,c⟩
 subst c
 simp only[go_sem]
 refine zc (YSa _ _ (zza a.at_ b.at_) (zza a.id b.id) ⟨by simp only[go_sem],λ_=>by simp only[go_sem]⟩) ?_
 rintro _ d ⟨rfl,c⟩
 subst c
 simp only[go_sem]
 (first | refine zd ?_ | refine ze ?_ (by rfl))<;>(simp only[go_sem,Jia]<;>try rfl)
end Go.Proofs.YtfmldcilgbbimaaGreat.Ax
