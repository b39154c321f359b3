/-
  Joined.
-/
import Derived.Test.YtfmldcilgbbimaaGreatK12
set_option linter.unusedSimpArgs false
set_option linter.unusedVariables false
namespace Go.Proofs.YtfmldcilgbbimaaGreat.Ax
open Go Go.Proofs
set_option maxRecDepth 100000
attribute [go_sem] ZFa
def kpa:List AV->Int
 | [.v (.int _ n)]=>n
 | _=>0
def zH (n:Int):List AV:=[i64 n]
def Ks (lo a n:Int):Bool:=decide (n<lo) || decide (n>a)
def wA (lo a:Int) (l:List Int):Bool:= !l.any (Ks lo a)
theorem c99 (h:List Ob) (i j:Nat) (lo c n:Int) (a:h[i]? =some (.box 3 [i64 lo])) (b:h[j]? =some (.box 3 [i64 c])):
  ACalls Tryz.prog 193 [i64 n,.ptr i 0,.ptr j 0] h λr h'=>r=bl (Ks lo c n)/\h'=h:=by
 refine zf Tryz.f193 [.tmp 4] 13 rfl rfl rfl rfl rfl rfl (by decide) (⟨_,_,⟨rfl,rfl⟩,.refl⟩) λB=>?_
 simp only[go_sem,a]
 refine ways (λe=>?_) (λe=>?_)
 ·have e:=jE e
  simp only[go_sem,e,a,b]
  (first | refine zc ?_ | refine ze ?_ (by rfl))<;>(simp only[go_sem,Ks,e]<;>try rfl)
 ·have e:=jD e
  simp only[go_sem,e,a,b]
  (first | refine zc ?_ | refine ze ?_ (by rfl))<;>(simp only[go_sem,Ks,e]<;>try rfl)
theorem c77 (h:List Ob) (x:AV) (lo b:Int) (l:List Int) (e:l.length<9223372036854775808) (d:SlOf h x 1 (l.map zH)):
  ACalls Tryz.prog 128 [i64 lo,i64 b,x] h λr h'=>r=bl (wA lo b l)/\h'=h:=by
 refine zf Tryz.f128 [.tmp 6] 11 rfl rfl rfl rfl rfl rfl (by decide) (⟨_,_,⟨rfl,rfl⟩,.refl⟩) λB=>?_
 simp only[go_sem]
 refine zd (c98 _ x 193 _ (l.map zH) (λr=>Ks lo b (kpa r)) (by simpa using e) (by simp[zH]) (d.app _) ?_) ?_
 ·intro row a L
  obtain ⟨n,_,rfl⟩:=List.mem_map.1 a
  refine c99 _ _ _ lo b n ?_ ?_
  all_goals simp only[go_sem]
 ·rintro _ f ⟨rfl,c⟩
  subst c
  simp only[go_sem]
  (first | refine zc ?_ | refine ze ?_ (by rfl))<;>(simp only[go_sem,wA,List.any_map,Function.comp_def,zH,kpa]<;>try rfl)
def Ql (p:zx):Bool:=decide (p.1<0) || !rok p
theorem JDa (p:zx) (a:zY p):qX Tryz.prog 196 [rat p] (bl (Ql p)):=λh=>by
 refine zf Tryz.f196 [.tmp 2] 11 rfl rfl rfl rfl rfl rfl (by decide) (⟨_,_,⟨rfl,rfl⟩,.refl⟩) λB=>?_
 simp only[go_sem]
 refine ways (λe=>?_) (λe=>?_)
 ·have e:=jE e
  simp only[go_sem,e]
  refine zd (c27 p a.1 a.2 _) ?_
  rintro _ c ⟨rfl,b⟩
  subst b
  simp only[go_sem,e]
  (first | refine zc ?_ | refine ze ?_ (by rfl))<;>(simp only[go_sem,Ql,e]<;>try rfl)
 ·have e:=jD e
  simp only[go_sem,e]
  (first | refine zc ?_ | refine ze ?_ (by rfl))<;>(simp only[go_sem,Ql,e]<;>try rfl)
def kqa:List AV->zx
 | [.v (.int _ n),.v (.int _ d)]=>(n,d)
 | _=>(0,0)
def Zb (l:List zx):Bool:= !l.any Ql
theorem c80 (h:List Ob) (x:AV) (l:List zx) (f:∀p∈l,zY p) (g:l.length<9223372036854775808) (e:SlOf h x 2 (l.map qv)):
  ACalls Tryz.prog 131 [x] h λr h'=>r=bl (Zb l)/\h'=h:=by
 refine zf Tryz.f131 [.tmp 2] 6 rfl rfl rfl rfl rfl rfl (by decide) (⟨_,_,⟨rfl,rfl⟩,.refl⟩) λB=>?_
 simp only[go_sem]
 refine zd (JAa _ x 196 _ (l.map qv) (λr=>Ql (kqa r)) (by simpa using g) (λr c=>by obtain ⟨p,_,rfl⟩:=List.mem_map.1 c;rfl) e ?_) ?_
 ·intro row a L
  obtain ⟨p,d,rfl⟩:=List.mem_map.1 a
  exact JDa p (f p d) _
 ·rintro _ i ⟨rfl,b⟩
  subst b
  simp only[go_sem]
  (first | refine zc ?_ | refine ze ?_ (by rfl))<;>(simp only[go_sem,Zb,List.any_map,Function.comp_def,qv,kqa]<;>try rfl)
abbrev Way:=Int × Int × Int
def QI (w:Way):List AV:=[i64 w.1,i64 w.2.1,i64 w.2.2]
def kra:List AV->Way
 | [.v (.int _ a),.v (.int _ b),.v (.int _ m)]=>(a,b,m)
 | _=>(0,0,0)
abbrev Elt:=zx × zx
def QJ (e:Elt):List AV:=[i64 e.1.1,i64 e.1.2,i64 e.2.1,i64 e.2.2]
def zoa:List AV->Elt
 | [.v (.int _ a),.v (.int _ b),.v (.int _ c),.v (.int _ d)]=>((a,b),(c,d))
 | _=>((0,0),(0,0))
abbrev Qm:=Int × Int
structure Setup where
 places:Int
 ways:List Way
 pace:zx
 elements:List Elt
 classes:List zx
 gears:List zx
 allow:Int
 unit:Int
 cap:Int
 paidBreak:Int
 autoAfter:Int
 autoBreak:Int
 dayReg:Int
 dayOver:Int
 weekReg:Int
 nightFrom:Int
 nightTo:Int
 rates:List Int
 diff:Int
 least:Int
 fault:Int
 tiers:List Qm
structure SA where
 w:AV
 e:AV
 c:AV
 g:AV
 r:AV
 t:AV
abbrev zr (s:Setup) (a:SA):List AV:=[i64 s.places,a.w,i64 s.pace.1,i64 s.pace.2,a.e,a.c,a.g,i64 s.allow,i64 s.unit,i64 s.cap,i64 s.paidBreak,i64 s.autoAfter,i64 s.autoBreak,
 i64 s.dayReg,i64 s.dayOver,i64 s.weekReg,i64 s.nightFrom,i64 s.nightTo,a.r,i64 s.diff,i64 s.least,i64 s.fault,a.t]
abbrev qh (s:Setup) (a:SA):AV:= .ag (zr s a)
structure SIn (h:List Ob) (s:Setup) (a:SA):Prop where
 w:SlOf h a.w 3 (s.ways.map QI)
 e:SlOf h a.e 4 (s.elements.map QJ)
 c:SlOf h a.c 2 (s.classes.map qv)
 g:SlOf h a.g 2 (s.gears.map qv)
 r:SlOf h a.r 1 (s.rates.map zH)
 t:SlOf h a.t 2 (s.tiers.map qv)
theorem SIn.app {h:List Ob} {s:Setup} {a:SA} (k:SIn h s a) (L:List Ob):SIn (h++L) s a:=⟨k.w.app L,k.e.app L,k.c.app L,k.g.app L,k.r.app L,k.t.app L⟩
structure SFit (s:Setup):Prop where
 places:Fit s.places
 pace:zY s.pace
 elements:∀e∈s.elements,zY e.1/\zY e.2
 classes:∀p∈s.classes,zY p
 gears:∀p∈s.gears,zY p
 tiers:∀t∈s.tiers,zY t
 nw:s.ways.length<9223372036854775808
 ne:s.elements.length<9223372036854775808
 nc:s.classes.length<9223372036854775808
 ng:s.gears.length<9223372036854775808
 nr:s.rates.length<9223372036854775808
 nt:s.tiers.length<9223372036854775808
def yH (places:Int) (w:Way):Bool:= !wA 0 (wr (places - 1)) [w.1,w.2.1] || w.1==w.2.1 || !wA 1 10000 [w.2.2]
theorem c76 (h:List Ob) (i:Nat) (s:Setup) (a:SA) (w:Way) (c:h[i]? =some (.box 30 (zr s a))):
  ACalls Tryz.prog 127 [.ag (QI w),.ptr i 0] h λr h'=>r=bl (yH s.places w)/\h'=h:=by
 refine zf Tryz.f127 [.tmp 3] 28 rfl rfl rfl rfl rfl rfl (by decide) (⟨_,_,⟨rfl,rfl⟩,.refl⟩) λB=>?_
 simp only[go_sem,c,QI]
 have f:∀M,(h++M)[i]? =some (.box 30 (zr s a)):=λM=>zb c
 simp only[go_sem,f]
 refine zd (c77 _ _ 0 _ [w.1,w.2.1] (by simp) ⟨by simp only[go_sem,zH],λ_=>by simp only[go_sem,zH]⟩) ?_
 rintro _ g ⟨rfl,d⟩
 subst d
 simp only[go_sem]
 refine ways (λe=>?_) (λe=>?_)
 ·have e:=jE e
  simp only[go_sem,e]
  refine ways (λb=>?_) (λb=>?_)
  ·have b:=jE b
   simp only[go_sem,e,b]
   refine zd (c77 _ _ 1 10000 [w.2.2] (by simp) ⟨by simp only[go_sem,zH],λ_=>by simp only[go_sem,zH]⟩) ?_
   rintro _ g ⟨rfl,d⟩
   subst d
   simp only[go_sem,e,b]
   (first | refine zc ?_ | refine ze ?_ (by rfl))<;>(simp only[go_sem,yH,e,b]<;>try rfl)
  ·have b:=jD b
   simp only[go_sem,e,b]
   (first | refine zc ?_ | refine ze ?_ (by rfl))<;>(simp only[go_sem,yH,e,b]<;>try rfl)
 ·have e:=jD e
  simp only[go_sem,e]
  (first | refine zc ?_ | refine ze ?_ (by rfl))<;>(simp only[go_sem,yH,e]<;>try rfl)
def vD (s:Setup):Bool:=wA 1 16 [s.places] && decide ((s.ways.length:Int)<=64) && !s.ways.any (yH s.places)
theorem c47 (h:List Ob) (s:Setup) (a:SA) (k:SIn h s a) (f:SFit s):ACalls Tryz.prog 59 [qh s a] h λr h'=>r=bl (vD s)/\h'=h:=by
 refine zf Tryz.f59 [.tmp 2] 22 rfl rfl rfl rfl rfl rfl (by decide) (⟨_,_,⟨rfl,rfl⟩,.refl⟩) λB=>?_
 simp only[go_sem,k.w.one,k.e.one,k.c.one,k.g.one,k.r.one,k.t.one]
 refine zd (c77 _ _ 1 16 [s.places] (by simp) ⟨by simp only[go_sem,zH],λ_=>by simp only[go_sem,zH]⟩) ?_
 rintro _ l ⟨rfl,i⟩
 subst i
 simp only[go_sem]
 refine ways (λe=>?_) (λe=>?_)
 ·have e:=qV e
  simp only[go_sem,e,(k.app _).w.rows,List.length_map]
  refine ways (λb=>?_) (λb=>?_)
  ·have b:=qV b
   simp only[go_sem,e,b]
   refine zd (c78 _ a.w 127 _ (s.ways.map QI) (λr=>yH s.places (kra r)) (by simpa using f.nw) (λr j=>by obtain ⟨p,_,rfl⟩:=List.mem_map.1 j;rfl) (k.app _).w ?_) ?_
   ·intro row d L
    obtain ⟨p,m,rfl⟩:=List.mem_map.1 d
    refine c76 _ _ s a p ?_
    simp only[go_sem]
   ·rintro _ l ⟨rfl,i⟩
    subst i
    simp only[go_sem]
    (first | refine zc ?_ | refine ze ?_ (by rfl))<;>(simp only[go_sem,vD,e,b,List.any_map,Function.comp_def,QI,kra]<;>try rfl)
  ·have b:=qU b
   simp only[go_sem,e,b]
   (first | refine zc ?_ | refine ze ?_ (by rfl))<;>(simp only[go_sem,vD,e,b]<;>try rfl)
 ·have e:=qU e
  simp only[go_sem,e]
  (first | refine zc ?_ | refine ze ?_ (by rfl))<;>(simp only[go_sem,vD,e]<;>try rfl)
def QK (e:Elt):Bool:= !Zb [e.1,e.2]
theorem c79 (e:Elt) (a:zY e.1/\zY e.2):qX Tryz.prog 130 [.ag (QJ e)] (bl (QK e)):=λh=>by
 refine zf Tryz.f130 [.tmp 2] 10 rfl rfl rfl rfl rfl rfl (by decide) (⟨_,_,⟨rfl,rfl⟩,.refl⟩) λB=>?_
 simp only[go_sem,QJ]
 refine zd (c80 _ _ [e.1,e.2] (by simpa using a) (by simp) ⟨by simp only[go_sem,qv],λ_=>by simp only[go_sem,qv]⟩) ?_
 rintro _ c ⟨rfl,b⟩
 subst b
 simp only[go_sem]
 (first | refine zc ?_ | refine ze ?_ (by rfl))<;>(simp only[go_sem,QK]<;>try rfl)
def Qja (a b c:Int):Int:=if c>(if b>a then b else a) then c else (if b>a then b else a)
def vE (s:Setup):Bool:=Zb [s.pace] && Zb s.classes && Zb s.gears && !s.elements.any QK && decide (Qja s.elements.length s.classes.length s.gears.length<=8)
theorem c48 (h:List Ob) (s:Setup) (a:SA) (k:SIn h s a) (f:SFit s):ACalls Tryz.prog 60 [qh s a] h λr h'=>r=bl (vE s)/\h'=h:=by
 refine zf Tryz.f60 [.tmp 2] 38 rfl rfl rfl rfl rfl rfl (by decide) (⟨_,_,⟨rfl,rfl⟩,.refl⟩) λB=>?_
 simp only[go_sem,k.w.one,k.e.one,k.c.one,k.g.one,k.r.one,k.t.one]
 refine zd (c80 _ _ [s.pace] (by simpa using f.pace) (by simp) ⟨by simp only[go_sem,qv],λ_=>by simp only[go_sem,qv]⟩) ?_
 rintro _ n ⟨rfl,j⟩
 subst j
 simp only[go_sem]
 refine ways (λe=>?_) (λe=>?_)
 ·have e:=qV e
  simp only[go_sem,e]
  refine zd (c80 _ a.c s.classes f.classes f.nc (k.app _).c) ?_
  rintro _ n ⟨rfl,j⟩
  subst j
  simp only[go_sem,e]
  refine ways (λb=>?_) (λb=>?_)
  ·have b:=qV b
   simp only[go_sem,e,b]
   refine zd (c80 _ a.g s.gears f.gears f.ng (k.app _).g) ?_
   rintro _ n ⟨rfl,j⟩
   subst j
   simp only[go_sem,e,b]
   refine ways (λd=>?_) (λd=>?_)
   ·have d:=qV d
    simp only[go_sem,e,b,d]
    refine zd (c81 _ a.e 130 _ (s.elements.map QJ) (λr=>QK (zoa r)) (by simpa using f.ne) (λr o=>by obtain ⟨p,_,rfl⟩:=List.mem_map.1 o;rfl) (k.app _).e ?_) ?_
    ·intro row l L
     obtain ⟨p,q,rfl⟩:=List.mem_map.1 l
     exact c79 p (f.elements p q) _
    ·rintro _ n ⟨rfl,j⟩
     subst j
     have m:(s.elements.map QJ).any (λr=>QK (zoa r))=s.elements.any QK:=by simp only[List.any_map,Function.comp_def,QJ,zoa]
     simp only[go_sem,m,e,b,d]
     refine ways (λi=>?_) (λi=>?_)
     ·have i:=qV i
      simp only[go_sem,e,b,d,i,(k.app _).e.rows,(k.app _).c.rows,(k.app _).g.rows,List.length_map]
      (first | refine zc ?_ | refine ze ?_ (by rfl))<;>(simp only[go_sem,vE,e,b,d,i,Qja]<;>try rfl)
     ·have i:=qU i
      simp only[go_sem,e,b,d,i]
      (first | refine zc ?_ | refine ze ?_ (by rfl))<;>(simp only[go_sem,vE,e,b,d,i]<;>try rfl)
   ·have d:=qU d
    simp only[go_sem,e,b,d]
    (first | refine zc ?_ | refine ze ?_ (by rfl))<;>(simp only[go_sem,vE,e,b,d]<;>try rfl)
  ·have b:=qU b
   simp only[go_sem,e,b]
   (first | refine zc ?_ | refine ze ?_ (by rfl))<;>(simp only[go_sem,vE,e,b]<;>try rfl)
 ·have e:=qU e
  simp only[go_sem,e]
  (first | refine zc ?_ | refine ze ?_ (by rfl))<;>(simp only[go_sem,vE,e]<;>try rfl)
set_option maxRecDepth 100000
def xM (s:Setup):Bool:=wA 0 100 [s.allow] && wA 1 3600 [s.unit] && wA 60 57600 [s.cap] && wA 0 86400 [s.paidBreak,s.autoAfter,s.autoBreak,s.nightFrom,s.nightTo,s.fault,s.dayOver] && wA 0 s.dayOver [s.dayReg] && wA 0 604800 [s.weekReg]
theorem c49 (h:List Ob) (s:Setup) (a:SA) (k:SIn h s a) (f:SFit s):ACalls Tryz.prog 61 [qh s a] h λr h'=>r=bl (xM s)/\h'=h:=by
 refine zf Tryz.f61 [.tmp 2] 51 rfl rfl rfl rfl rfl rfl (by decide) (⟨_,_,⟨rfl,rfl⟩,.refl⟩) λB=>?_
 simp only[go_sem,k.w.one,k.e.one,k.c.one,k.g.one,k.r.one,k.t.one]
 refine zd (c77 _ _ 0 100 [s.allow] (by simp) ⟨by simp only[go_sem,zH],λ_=>by simp only[go_sem,zH]⟩) ?_
 rintro _ n ⟨rfl,l⟩
 subst l
 simp only[go_sem]
 refine ways (λb=>?_) (λb=>?_)
 ·have b:=qV b
  simp only[go_sem,b]
  refine zd (c77 _ _ 1 3600 [s.unit] (by simp) ⟨by simp only[go_sem,zH],λ_=>by simp only[go_sem,zH]⟩) ?_
  rintro _ n ⟨rfl,l⟩
  subst l
  simp only[go_sem,b]
  refine ways (λd=>?_) (λd=>?_)
  ·have d:=qV d
   simp only[go_sem,b,d]
   refine zd (c77 _ _ 60 57600 [s.cap] (by simp) ⟨by simp only[go_sem,zH],λ_=>by simp only[go_sem,zH]⟩) ?_
   rintro _ n ⟨rfl,l⟩
   subst l
   simp only[go_sem,b,d]
   refine ways (λi=>?_) (λi=>?_)
   ·have i:=qV i
    simp only[go_sem,b,d,i]
    refine zd (c77 _ _ 0 86400 [s.paidBreak,s.autoAfter,s.autoBreak,s.nightFrom,s.nightTo,s.fault,s.dayOver] (by simp) ⟨by simp only[go_sem,zH],λ_=>by simp only[go_sem,zH]⟩) ?_
    rintro _ n ⟨rfl,l⟩
    subst l
    simp only[go_sem,b,d,i]
    refine ways (λj=>?_) (λj=>?_)
    ·have j:=qV j
     simp only[go_sem,b,d,i,j]
     refine zd (c77 _ _ 0 _ [s.dayReg] (by simp) ⟨by simp only[go_sem,zH],λ_=>by simp only[go_sem,zH]⟩) ?_
     rintro _ n ⟨rfl,l⟩
     subst l
     simp only[go_sem,b,d,i,j]
     refine ways (λm=>?_) (λm=>?_)
     ·have m:=qV m
      simp only[go_sem,b,d,i,j,m]
      refine zd (c77 _ _ 0 604800 [s.weekReg] (by simp) ⟨by simp only[go_sem,zH],λ_=>by simp only[go_sem,zH]⟩) ?_
      rintro _ n ⟨rfl,l⟩
      subst l
      simp only[go_sem,b,d,i,j,m]
      (first | refine zc ?_ | refine ze ?_ (by rfl))<;>(simp only[go_sem,xM,b,d,i,j,m]<;>try rfl)
     ·have m:=qU m
      simp only[go_sem,b,d,i,j,m]
      (first | refine zc ?_ | refine ze ?_ (by rfl))<;>(simp only[go_sem,xM,b,d,i,j,m]<;>try rfl)
    ·have j:=qU j
     simp only[go_sem,b,d,i,j]
     (first | refine zc ?_ | refine ze ?_ (by rfl))<;>(simp only[go_sem,xM,b,d,i,j]<;>try rfl)
   ·have i:=qU i
    simp only[go_sem,b,d,i]
    (first | refine zc ?_ | refine ze ?_ (by rfl))<;>(simp only[go_sem,xM,b,d,i]<;>try rfl)
  ·have d:=qU d
   simp only[go_sem,b,d]
   (first | refine zc ?_ | refine ze ?_ (by rfl))<;>(simp only[go_sem,xM,b,d]<;>try rfl)
 ·have b:=qU b
  simp only[go_sem,b]
  (first | refine zc ?_ | refine ze ?_ (by rfl))<;>(simp only[go_sem,xM,b]<;>try rfl)
def vj (last:Int) (t:Qm):Bool:=decide (t.1<=last) || decide (t.1>1000) || !wA 0 100000 [t.2]
theorem c82 (h:List Ob) (i:Nat) (last:Int) (t:Qm) (c:h[i]? =some (.box 3 [i64 last])):
  ACalls Tryz.prog 133 [.ag (qv t),.ptr i 0] h λr h'=>r=bl (vj last t)/\h'=h.set i (.box 3 [i64 t.1]):=by
 have d:∀M,(h++M)[i]? =some (.box 3 [i64 last]):=λM=>zb c
 have f:∀M o,(h++M).set i o=h.set i o++M:=λM o=>zX c
 have fin:∀(T:Env) (M:List Ob) (b:Bool),T 3=bl b->b=vj last t->q3a Tryz.prog [.tmp 3] h (λr h'=>r=bl (vj last t)/\h'=h.set i (.box 3 [i64 t.1])) .ret T (h.set i (.box 3 [i64 t.1])++M):=λT M b j g=>
  ⟨bl b,by simp only[go_sem,j],.inr ⟨_,M,rfl,by simp,rfl,KeepLt.refl.set rfl rfl,by rw[g],rfl⟩⟩
 refine zf Tryz.f133 [.tmp 3] 24 rfl rfl rfl rfl rfl rfl (by decide) (⟨_,_,⟨rfl,rfl⟩,zJ c rfl⟩) λB=>?_
 simp only[go_sem,c,qv,d]
 refine ways (λe=>?_) (λe=>?_)
 ·have e:=jE e
  simp only[go_sem,e]
  refine ways (λa=>?_) (λa=>?_)
  ·have a:=jE a
   simp only[go_sem,e,a]
   refine zd (c77 _ _ 0 100000 [t.2] (by simp) ⟨by simp only[go_sem,zH],λ_=>by simp only[go_sem,zH]⟩) ?_
   rintro _ k ⟨rfl,g⟩
   subst g
   simp only[go_sem,e,a,d,f]
   refine fin _ _ (!wA 0 100000 [t.2]) ?_ ?_
   ·simp only[go_sem]
   ·simp only[vj,e,a,Bool.false_or]
  ·have a:=jD a
   simp only[go_sem,e,a,d,f]
   refine fin _ _ true ?_ ?_
   ·simp only[go_sem]
   ·simp only[vj,e,a,Bool.false_or,Bool.true_or]
 ·have e:=jD e
  simp only[go_sem,e,d,f]
  refine fin _ _ true ?_ ?_
  ·simp only[go_sem]
  ·simp only[vj,e,Bool.true_or]
def jb:Int->List Qm->Bool
 | _,[]=>false
 | last,t::l=>vj last t || jb t.1 l
theorem JEa (h:List Ob) (x:AV) (i:Nat) (last:Int) (l:List Qm) (H:l.length<9223372036854775808) (D:∀o,SlOf (h.set i o) x 2 (l.map qv)) (f:h[i]? =some (.box 3 [i64 last])):
  ACalls Tryz.prog 198 [x,.fn (.func 133) [] [.ptr i 0]] h λr h'=>∃n m,r=i64 n/\h'=h.set i (.box 3 [i64 m])/\decide (n≥0)=jb last l:=by
 have a:h.set i (.box 3 [i64 last])=h:=by
  apply List.ext_getElem?
  intro j
  by_cases C:j=i
  ·subst C;rw[zh f,f]
  ·rw[List.getElem?_set_ne (λe=>C e.symm)]
 have q:=D (.box 3 [i64 last])
 rw[a] at q
 refine zf Tryz.f198 [.tmp 4] 19 rfl rfl rfl rfl rfl rfl (by decide) (⟨_,_,⟨if jb last l then 0 else -1,last,rfl,rfl,by split<;>simp_all⟩,zJ f rfl⟩) λB=>?_
 simp only[go_sem,q.rows,List.length_map]
 refine zk (by decide) (λn T h'=>∃(k:Nat) (d:Int),h'=h.set i (.box 3 [i64 d])/\T 0=x/\T 1= .fn (.func 133) [] [.ptr i 0]/\T 7=i64 l.length/\T 8=i64 k/\k<=l.length/\jb last l=jb d (l.drop k)/\n=l.length - k) l.length
  ⟨0,last,a.symm,by simp only[go_sem],by simp only[go_sem],by simp only[go_sem],by (simp only[go_sem]<;>rfl),by omega,rfl,rfl⟩ ?_
 rintro n T h' ⟨k,d,rfl,t0,t1,v,t8,F,h0,rfl⟩
 have w:=zh (b:=Ob.box 3 [i64 d]) f
 have s:∀o,(h.set i (.box 3 [i64 d])).set i o=h.set i o:=λo=>List.set_set ..
 have p:=D (.box 3 [i64 d])
 simp only[go_sem,v,t8]
 refine ways (λz=>?_) (λz=>?_)
 ·have c:k<l.length:=by simpa using z
  have t:=p.at (i:=k) (by simpa using c)
  have g:(l.map qv)[k]? =some (qv l[k]):=by simp[c]
  have A:(k:Int)<l.length:=by omega
  have u:=c82 (h.set i (.box 3 [i64 d])) i d l[k] w
  rw[s] at u
  simp only[qv] at g u
  rw[List.drop_eq_getElem_cons c] at h0
  simp only[go_sem,t,p.rows,g,A,t0,t1,v,t8,Int.toNat_natCast,Int.natCast_nonneg,List.length_map]
  refine zd u ?_
  rintro _ G ⟨rfl,E⟩
  subst E
  simp only[go_sem]
  refine ways (λy=>?_) (λy=>?_)
  ·simp only[go_sem,t8]
   exact ⟨i64 k,by simp only[go_sem],.inl ⟨k,l[k].1,rfl,rfl,by rw[h0];simp[jb,y]⟩⟩
  ·simp only[go_sem,t8,jq (show k<9223372036854775807 by omega)]
   refine ⟨l.length - (k+1),by omega,k+1,l[k].1,rfl,t0,t1,v,rfl,by omega,?_,rfl⟩
   rw[h0];simp[jb,y]
 ·have c:k=l.length:=by
   have:¬ (k:Int)<l.length:=by simpa using z
   omega
  rw[c,List.drop_length] at h0
  simp only[go_sem]
  exact ⟨i64 (-1),by simp only[go_sem],.inl ⟨-1,d,rfl,rfl,by rw[h0];rfl⟩⟩
theorem c83 (h:List Ob) (x:AV) (i:Nat) (last:Int) (l:List Qm) (f:l.length<9223372036854775808) (d:∀o,SlOf (h.set i o) x 2 (l.map qv)) (b:h[i]? =some (.box 3 [i64 last])):
  ACalls Tryz.prog 134 [x,.fn (.func 133) [] [.ptr i 0]] h λr h'=>r=bl (jb last l)/\∃a,h'=h.set i (.box 3 [i64 a]):=by
 refine zf Tryz.f134 [.tmp 4] 9 rfl rfl rfl rfl rfl rfl (by decide) (⟨_,_,⟨rfl,last,rfl⟩,zJ b rfl⟩) λB=>?_
 simp only[go_sem]
 refine zd (JEa h x i last l f d b) ?_
 rintro _ j ⟨n,g,rfl,c,e⟩
 subst c
 simp only[go_sem,e]
 exact ⟨bl (jb last l),by simp only[go_sem],.inl ⟨rfl,g,rfl⟩⟩
def kD (s:Setup):Bool:=decide ((s.rates.length:Int)>0) && decide ((s.rates.length:Int)<=16) && wA 0 100000 s.rates && wA 0 100000 [s.diff,s.least] && decide ((s.tiers.length:Int)<=8) && !jb (-1) s.tiers
theorem c50 (h:List Ob) (s:Setup) (a:SA) (k:SIn h s a) (f:SFit s):ACalls Tryz.prog 62 [qh s a] h λr h'=>r=bl (kD s)/\h'=h:=by
 refine zf Tryz.f62 [.tmp 2] 42 rfl rfl rfl rfl rfl rfl (by decide) (⟨_,_,⟨rfl,rfl⟩,.refl⟩) λB=>?_
 simp only[go_sem,k.w.one,k.e.one,k.c.one,k.g.one,k.r.one,k.t.one,(k.app _).r.rows,List.length_map]
 refine ways (λb=>?_) (λb=>?_)
 ·have b:=qV b
  simp only[go_sem,b,(k.app _).r.rows,(k.app _).t.rows,List.length_map]
  refine ways (λd=>?_) (λd=>?_)
  ·have d:=qV d
   simp only[go_sem,b,d,(k.app _).r.rows,(k.app _).t.rows,List.length_map]
   refine zd (c77 _ a.r 0 100000 s.rates f.nr (k.app _).r) ?_
   rintro _ n ⟨rfl,m⟩
   subst m
   simp only[go_sem,b,d,(k.app _).r.rows,(k.app _).t.rows,List.length_map]
   refine ways (λi=>?_) (λi=>?_)
   ·have i:=qV i
    simp only[go_sem,b,d,i,(k.app _).r.rows,(k.app _).t.rows,List.length_map]
    refine zd (c77 _ _ 0 100000 [s.diff,s.least] (by simp) ⟨by simp only[go_sem,zH],λ_=>by simp only[go_sem,zH]⟩) ?_
    rintro _ n ⟨rfl,m⟩
    subst m
    simp only[go_sem,b,d,i,(k.app _).r.rows,(k.app _).t.rows,List.length_map]
    refine ways (λj=>?_) (λj=>?_)
    ·have j:=qV j
     simp only[go_sem,b,d,i,j,(k.app _).r.rows,(k.app _).t.rows,List.length_map]
     refine ways (λl=>?_) (λl=>?_)
     ·have l:=qV l
      simp only[go_sem,b,d,i,j,l,(k.app _).r.rows,(k.app _).t.rows,List.length_map]
      refine zd (c83 _ a.t _ (-1) s.tiers f.nt (λo=>by simp only[go_sem];exact (k.app _).t) (by simp only[go_sem])) ?_
      rintro _ n ⟨rfl,p,m⟩
      subst m
      simp only[go_sem,b,d,i,j,l,(k.app _).r.rows,(k.app _).t.rows,List.length_map]
      (first | refine zc ?_ | refine ze ?_ (by rfl))<;>(simp only[go_sem,kD,b,d,i,j,l,(k.app _).r.rows,(k.app _).t.rows,List.length_map]<;>try rfl)
     ·have l:=qU l
      simp only[go_sem,b,d,i,j,l]
      (first | refine zc ?_ | refine ze ?_ (by rfl))<;>(simp only[go_sem,kD,b,d,i,j,l]<;>try rfl)
    ·have j:=qU j
     simp only[go_sem,b,d,i,j]
     (first | refine zc ?_ | refine ze ?_ (by rfl))<;>(simp only[go_sem,kD,b,d,i,j]<;>try rfl)
   ·have i:=qU i
    simp only[go_sem,b,d,i]
    (first | refine zc ?_ | refine ze ?_ (by rfl))<;>(simp only[go_sem,kD,b,d,i]<;>try rfl)
  ·have d:=qU d
   simp only[go_sem,b,d]
   (first | refine zc ?_ | refine ze ?_ (by rfl))<;>(simp only[go_sem,kD,b,d]<;>try rfl)
 ·have b:=qU b
  simp only[go_sem,b]
  (first | refine zc ?_ | refine ze ?_ (by rfl))<;>(simp only[go_sem,kD,b]<;>try rfl)
def zz (s:Setup):Bool:=vD s && vE s && xM s && kD s
theorem c16 (h:List Ob) (s:Setup) (a:SA) (k:SIn h s a) (f:SFit s):ACalls Tryz.prog 21 [qh s a] h λr h'=>r=bl (zz s)/\h'=h:=by
 refine zf Tryz.f21 [.tmp 2] 17 rfl rfl rfl rfl rfl rfl (by decide) (⟨_,_,⟨rfl,rfl⟩,.refl⟩) λB=>?_
 simp only[go_sem,k.w.one,k.e.one,k.c.one,k.g.one,k.r.one,k.t.one]
 refine zd (c47 _ s a (k.app _) f) ?_
 rintro _ l ⟨rfl,j⟩
 subst j
 simp only[go_sem]
 refine ways (λb=>?_) (λb=>?_)
 ·have b:=qV b
  simp only[go_sem,b]
  refine zd (c48 _ s a (k.app _) f) ?_
  rintro _ l ⟨rfl,j⟩
  subst j
  simp only[go_sem,b]
  refine ways (λd=>?_) (λd=>?_)
  ·have d:=qV d
   simp only[go_sem,b,d]
   refine zd (c49 _ s a (k.app _) f) ?_
   rintro _ l ⟨rfl,j⟩
   subst j
   simp only[go_sem,b,d]
   refine ways (λi=>?_) (λi=>?_)
   ·have i:=qV i
    simp only[go_sem,b,d,i]
    refine zd (c50 _ s a (k.app _) f) ?_
    rintro _ l ⟨rfl,j⟩
    subst j
    simp only[go_sem,b,d,i]
    (first | refine zc ?_ | refine ze ?_ (by rfl))<;>(simp only[go_sem,zz,b,d,i]<;>try rfl)
   ·have i:=qU i
    simp only[go_sem,b,d,i]
    (first | refine zc ?_ | refine ze ?_ (by rfl))<;>(simp only[go_sem,zz,b,d,i]<;>try rfl)
  ·have d:=qU d
   simp only[go_sem,b,d]
   (first | refine zc ?_ | refine ze ?_ (by rfl))<;>(simp only[go_sem,zz,b,d]<;>try rfl)
 ·have b:=qU b
  simp only[go_sem,b]
  (first | refine zc ?_ | refine ze ?_ (by rfl))<;>(simp only[go_sem,zz,b]<;>try rfl)
set_option maxRecDepth 100000
attribute [go_sem] vMa vNa yca yga w5a yha Qfa
structure Ev where
 id:Int
 worker:Int
 at_:Int
 kind:Int
 from_:Int
 to_:Int
 element:Int
 units:Int
 class_:Int
 gear:Int
 code:Int
abbrev evC (e:Ev):List AV:=[i64 e.id,i64 e.worker,i64 e.at_,i64 e.kind,i64 e.from_,i64 e.to_,i64 e.element,i64 e.units,i64 e.class_,i64 e.gear,i64 e.code]
abbrev evV (e:Ev):AV:= .ag (evC e)
def xh (i:Nat) (k:Int):List (List AV):=if k=3 then [[.ptr i 4],[.ptr i 5],[.ptr i 6],[.ptr i 7],[.ptr i 8],[.ptr i 9]] else if k=4 then [[.ptr i 10]] else []
def QL (k:Int):Bool:=1==k || (2==k || (3==k || (4==k || (5==k || (6==k || 7==k)))))
theorem c71 (h:List Ob) (i:Nat) (e:Ev) (b:h[i]? =some (.box 73 (evC e))):
  ACalls Tryz.prog 161 [.ptr i 0] h λr h'=>∃L x,h'=h++L/\r= .tup [x,bl (QL e.kind)]/\∀a:List Ob,a.length=h.length->SlOf (a++L) x 1 (xh i e.kind):=by
 have d:∀M,(h++M)[i]? =some (.box 73 (evC e)):=λM=>zb b
 refine zf Tryz.f161 [.tmp 2,.tmp 3] 43 rfl rfl rfl rfl rfl rfl (by decide) (⟨_,h,⟨[],.sl 1 _,by simp,rfl,λ_ _=>⟨rfl,λ_=>rfl⟩⟩,.refl⟩) λB=>?_
 simp only[go_sem,b]
 refine zp rfl [.res,.res,.res] 3 [(6,0,[]),(7,0,[]),(8,0,[]),(9,0,[]),(10,0,[]),(11,0,[]),(12,0,[]),(13,0,[]),(14,0,[]),(15,0,[]),(16,0,[]),(17,0,[]),(18,0,[]),(19,0,[]),(20,0,[]),(21,0,[]),(22,0,[]),(23,0,[]),(26,0,[]),(27,0,[]),(28,0,[]),(0,0,[]),(1,0,[]),(2,0,[]),(3,0,[]),(4,0,[]),(5,0,[]),(24,1,[]),(25,0,[]),(29,2,[]),(30,0,[]),(31,0,[]),(32,0,[])] rfl (by decide) (by decide) ?_
 simp only[go_sem,d]
 refine ⟨.tup [if 1=e.kind then AV.v (Value.slice none 0 0) else if 2=e.kind then AV.v (Value.slice none 0 0) else if 3=e.kind then AV.tl (h.length+1) 0 else if 4=e.kind then AV.tl (h.length+2) 0 else if 5=e.kind then AV.v (Value.slice none 0 0) else if 6=e.kind then AV.v (Value.slice none 0 0) else if 7=e.kind then AV.v (Value.slice none 0 0) else AV.v (Value.slice none 0 0),bl (QL e.kind)],by simp only[go_sem,QL]<;>rfl,.inl ⟨_,_,rfl,rfl,λa c=>?_⟩⟩
 rw[<-c]
 by_cases k1:e.kind=3
 ·rw[xh,if_pos k1,k1]
  exact ⟨by simp only[go_sem],λ_=>by simp only[go_sem]⟩
 ·by_cases k2:e.kind=4
  ·rw[xh,if_neg k1,if_pos k2,k2]
   exact ⟨by simp only[go_sem],λ_=>by simp only[go_sem]⟩
  ·rw[xh,if_neg k1,if_neg k2]
   have a1:¬ 3=e.kind:=λh=>k1 h.symm
   have a2:¬ 4=e.kind:=λh=>k2 h.symm
   simp only[if_neg a1,if_neg a2,ite_self]
   exact ⟨rfl,λh=>absurd rfl h⟩
def wQ (n a:Int):Bool:=decide (n≥0) && decide (n<=a)
theorem c72 (n a:Int):qX Tryz.prog 162 [i64 n,i64 a] (bl (wQ n a)):=λh=>by
 refine zf Tryz.f162 [.tmp 4] 12 rfl rfl rfl rfl rfl rfl (by decide) (⟨_,_,⟨rfl,rfl⟩,.refl⟩) λB=>?_
 simp only[go_sem]
 refine ways (λe=>?_) (λe=>?_)
 ·have e:=qV e
  simp only[go_sem,e]
  (first | refine zc ?_ | refine ze ?_ (by rfl))<;>(simp only[go_sem,wQ,e]<;>try rfl)
 ·have e:=qU e
  simp only[go_sem,e]
  (first | refine zc ?_ | refine ze ?_ (by rfl))<;>(simp only[go_sem,wQ,e]<;>try rfl)
theorem Qka (n:Int):qX Tryz.prog 177 [i64 n] (bl false):=λh=>by
 refine zf Tryz.f177 [.tmp 2] 6 rfl rfl rfl rfl rfl rfl (by decide) (⟨_,_,⟨rfl,rfl⟩,.refl⟩) λB=>?_
 simp only[go_sem]
 (first | refine zc ?_ | refine ze ?_ (by rfl))<;>(simp only[go_sem,bne_self_eq_false]<;>try rfl)
def VP (a b:Int):Int:=if a<b then -1 else if a>b then 1 else 0
theorem c95 (a b:Int):qX Tryz.prog 108 [i64 a,i64 b] (i64 (VP a b)):=λh=>by
 refine zf Tryz.f108 [.tmp 4] 20 rfl rfl rfl rfl rfl rfl (by decide) (⟨_,_,⟨rfl,rfl⟩,.refl⟩) λB=>?_
 simp only[go_sem]
 refine zd (Qka a _) ?_
 rintro _ _ ⟨rfl,rfl⟩
 simp only[go_sem]
 refine zd (Qka b _) ?_
 rintro _ _ ⟨rfl,rfl⟩
 simp only[go_sem]
 refine ways (λe=>?_) (λe=>?_)
 ·simp only[go_sem]
  (first | refine zc ?_ | refine ze ?_ (by rfl))<;>(simp only[go_sem,VP,of_decide_eq_true e]<;>try rfl)
 ·simp only[go_sem]
  refine ways (λc=>?_) (λc=>?_)
  ·simp only[go_sem]
   (first | refine zc ?_ | refine ze ?_ (by rfl))<;>(simp only[go_sem,VP,of_decide_eq_false e,of_decide_eq_true c]<;>try rfl)
  ·simp only[go_sem]
   (first | refine zc ?_ | refine ze ?_ (by rfl))<;>(simp only[go_sem,VP,of_decide_eq_false e,of_decide_eq_false c]<;>try rfl)
def orI:List Int->Int
 | []=>0
 | n::l=>if n≠0 then n else orI l
theorem JFa (h:List Ob) (x:AV) (a b:Int) (c:SlOf h x 1 [[i64 a],[i64 b]]):ACalls Tryz.prog 159 [x] h λr h'=>r=i64 (orI [a,b])/\h'=h:=by
 have j:=c.at (i:=0) (by simp)
 refine zf Tryz.f159 [.tmp 2] 18 rfl rfl rfl rfl rfl rfl (by decide) (⟨_,_,⟨rfl,rfl⟩,.refl⟩) λB=>?_
 simp only[go_sem,c.rows]
 refine kr 3 (qL (by decide) ?_)
 simp only[go_sem,c.rows,j]
 refine ways (λe=>?_) (λe=>?_)
 ·simp only[go_sem]
  have d:¬ a=0:=by simpa using e
  (first | refine zc ?_ | refine ze ?_ (by rfl))<;>(simp only[go_sem,orI,d,ne_eq,not_false_eq_true]<;>try rfl)
 ·have d:a=0:=by simpa using e
  simp only[go_sem]
  refine qL (by decide) ?_
  simp only[go_sem,c.rows,j]
  refine ways (λf=>?_) (λf=>?_)
  ·simp only[go_sem]
   have g:¬ b=0:=by simpa using f
   (first | refine zc ?_ | refine ze ?_ (by rfl))<;>(simp only[go_sem,orI,d,g,ne_eq,not_false_eq_true,not_true_eq_false]<;>try rfl)
  ·have g:b=0:=by simpa using f
   simp only[go_sem]
   refine qL (by decide) ?_
   simp only[go_sem]
   (first | refine zc ?_ | refine ze ?_ (by rfl))<;>(simp only[go_sem,orI,d,g,ne_eq,not_false_eq_true,not_true_eq_false]<;>try rfl)
def waa (a b:Ev):Int:=orI [VP a.at_ b.at_,VP a.id b.id]
theorem c89 (a b:Ev):qX Tryz.prog 97 [evV a,evV b] (i64 (waa a b)):=λh=>by
 refine zf Tryz.f97 [.tmp 4] 17 rfl rfl rfl rfl rfl rfl (by decide) (⟨_,_,⟨rfl,rfl⟩,.refl⟩) λB=>?_
 simp only[go_sem]
 refine zp rfl [.res] 1 [(0,0,[]),(2,0,[]),(5,0,[]),(7,0,[]),(1,0,[]),(3,0,[]),(6,0,[]),(8,0,[]),(4,0,[6,8]),(9,0,[]),(10,0,[]),(11,0,[]),(12,0,[])] rfl (by decide) (by decide) ?_
 simp only[go_sem]
 refine zd (c95 a.at_ b.at_ _) ?_
 rintro _ d ⟨rfl,c⟩
 subst c
 simp only[go_sem]
 refine zd (c95 a.id b.id _) ?_
 rintro _ d ⟨rfl,c⟩
 subst c
 simp only[go_sem]
 refine zd (JFa _ _ (VP a.at_ b.at_) (VP a.id b.id) ⟨by simp only[go_sem],λ_=>by simp only[go_sem]⟩) ?_
 rintro _ d ⟨rfl,c⟩
 subst c
 simp only[go_sem]
 (first | refine zc ?_ | refine ze ?_ (by rfl))<;>(simp only[go_sem,waa]<;>try rfl)
end Go.Proofs.YtfmldcilgbbimaaGreat.Ax
