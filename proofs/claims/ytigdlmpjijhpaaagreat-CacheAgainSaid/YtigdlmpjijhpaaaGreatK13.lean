import Derived.Test.YtigdlmpjijhpaaaGreatKA
import Derived.Test.YtigdlmpjijhpaaaGreatK12
set_option linter.all false
namespace Go.Proofs.YtigdlmpjijhpaaaGreat.Ax
open Go Go.Proofs
set_option maxRecDepth 100000
attribute [go_sem] qwb
def VJ:List AV->Int
 | [.v (.int _ n)]=>n
 | _=>0
def qn(n:Int):List AV:=[i64 n]
def qia(lo hi n:Int):Bool:=decide (n<lo) || decide (n>hi)
def QA(lo hi:Int)(l:List Int):Bool:= !l.any (qia lo hi)
theorem c99(h:List Ob)(i j:Nat)(lo hi n:Int)(a:h[i]? =some (.box 3 [i64 lo]))(b:h[j]? =some (.box 3 [i64 hi])):
  ACalls Tryz.prog 211 [i64 n,.ptr i 0,.ptr j 0] h λr h'=>r=bl (qia lo hi n)/\h'=h:=by
 refine zi Tryz.f211 [.tmp 4] 13 rfl rfl rfl rfl rfl rfl (by decide) (⟨_,_,⟨rfl,rfl⟩,.refl⟩) λB=>?_
 simp only[go_sem,a]
 refine ways (λe=>?_) (λe=>?_)
 ·have e:=vq e
  simp only[go_sem,e,a,b]
  refine zn ?_<;>(simp only[go_sem,qia,e]<;>try rfl)
 ·have e:=vp e
  simp only[go_sem,e,a,b]
  refine zn ?_<;>(simp only[go_sem,qia,e]<;>try rfl)
theorem c77(h:List Ob)(x:AV)(lo hi:Int)(l:List Int)(d:l.length<9223372036854775808)(b:SlOf h x 1 (l.map qn)):
  ACalls Tryz.prog 142 [i64 lo,i64 hi,x] h λr h'=>r=bl (QA lo hi l)/\h'=h:=by
 refine zi Tryz.f142 [.tmp 6] 11 rfl rfl rfl rfl rfl rfl (by decide) (⟨_,_,⟨rfl,rfl⟩,.refl⟩) λB=>?_
 simp only[go_sem]
 refine zg (c98 _ x 211 _ (l.map qn) (λr=>qia lo hi (VJ r)) (by simpa using d) (by simp[qn]) (b.app _) ?_) ?_
 ·intro row a L
  obtain⟨n,_,rfl⟩:=zr.1 a
  refine c99 _ _ _ lo hi n ?_ ?_
  all_goals simp only[go_sem]
 ·rintro _ e ⟨rfl,c⟩
  subst c
  simp only[go_sem]
  refine zn ?_<;>(simp only[go_sem,QA,List.any_map,Function.comp_def,qn,VJ]<;>try rfl)
def K1(p:qx):Bool:=decide (p.1<0) || !rok p
theorem x6b(p:qx)(a:jq p):xA Tryz.prog 214 [rat p] (bl (K1 p)):=λh=>by
 refine zi Tryz.f214 [.tmp 2] 11 rfl rfl rfl rfl rfl rfl (by decide) (⟨_,_,⟨rfl,rfl⟩,.refl⟩) λB=>?_
 simp only[go_sem]
 refine ways (λe=>?_) (λe=>?_)
 ·have e:=vq e
  simp only[go_sem,e]
  refine zg (c27 p a.1 a.2 _) ?_
  rintro _ c ⟨rfl,b⟩
  subst b
  simp only[go_sem,e]
  refine zn ?_<;>(simp only[go_sem,K1,e]<;>try rfl)
 ·have e:=vp e
  simp only[go_sem,e]
  refine zn ?_<;>(simp only[go_sem,K1,e]<;>try rfl)
def Xoa:List AV->qx
 | [.v (.int _ n),.v (.int _ d)]=>(n,d)
 | _=>(0,0)
def Xy(l:List qx):Bool:= !l.any K1
theorem c80(h:List Ob)(x:AV)(l:List qx)(d:∀p∈l,jq p)(g:l.length<9223372036854775808)(b:SlOf h x 2 (l.map jH)):
  ACalls Tryz.prog 145 [x] h λr h'=>r=bl (Xy l)/\h'=h:=by
 refine zi Tryz.f145 [.tmp 2] 6 rfl rfl rfl rfl rfl rfl (by decide) (⟨_,_,⟨rfl,rfl⟩,.refl⟩) λB=>?_
 simp only[go_sem]
 refine zg (x3b _ x 214 _ (l.map jH) (λr=>K1 (Xoa r)) (by simpa using g) (λr e=>by obtain⟨p,_,rfl⟩:=zr.1 e;rfl) b ?_) ?_
 ·intro row a L
  obtain⟨p,c,rfl⟩:=zr.1 a
  exact x6b p (d p c) _
 ·rintro _ i ⟨rfl,f⟩
  subst f
  simp only[go_sem]
  refine zn ?_<;>(simp only[go_sem,Xy,List.any_map,Function.comp_def,jH,Xoa]<;>try rfl)
abbrev Way:=Int × Int × Int
def JE(w:Way):List AV:=[i64 w.1,i64 w.2.1,i64 w.2.2]
def Xpa:List AV->Way
 | [.v (.int _ a),.v (.int _ b),.v (.int _ m)]=>(a,b,m)
 | _=>(0,0,0)
abbrev Elt:=qx × qx
def JF(e:Elt):List AV:=[i64 e.1.1,i64 e.1.2,i64 e.2.1,i64 e.2.2]
def wca:List AV->Elt
 | [.v (.int _ a),.v (.int _ b),.v (.int _ c),.v (.int _ d)]=>((a,b),(c,d))
 | _=>((0,0),(0,0))
abbrev K2:=Int × Int
structure Setup where
 places:Int
 ways:List Way
 pace:qx
 elements:List Elt
 classes:List qx
 gears:List qx
 allow:Int
 unit:Int
 cap:Int
 paidBreak:Int
 autoAfter:Int
 autoBreak:Int
 dayReg:Int
 dayOver:Int
 weekReg:Int
 nightFrom:Int
 nightTo:Int
 rates:List Int
 diff:Int
 least:Int
 fault:Int
 tiers:List K2
structure SA where
 w:AV
 e:AV
 c:AV
 g:AV
 r:AV
 t:AV
abbrev qg(s:Setup)(a:SA):List AV:=[i64 s.places,a.w,i64 s.pace.1,i64 s.pace.2,a.e,a.c,a.g,i64 s.allow,i64 s.unit,i64 s.cap,i64 s.paidBreak,i64 s.autoAfter,i64 s.autoBreak,
 i64 s.dayReg,i64 s.dayOver,i64 s.weekReg,i64 s.nightFrom,i64 s.nightTo,a.r,i64 s.diff,i64 s.least,i64 s.fault,a.t]
abbrev je(s:Setup)(a:SA):AV:= .ag (qg s a)
structure SIn (h:List Ob) (s:Setup) (a:SA):Prop where
 w:SlOf h a.w 3 (s.ways.map JE)
 e:SlOf h a.e 4 (s.elements.map JF)
 c:SlOf h a.c 2 (s.classes.map jH)
 g:SlOf h a.g 2 (s.gears.map jH)
 r:SlOf h a.r 1 (s.rates.map qn)
 t:SlOf h a.t 2 (s.tiers.map jH)
theorem SIn.app{h:List Ob}{s:Setup}{a:SA}(k:SIn h s a)(L:List Ob):SIn (h++L) s a:=⟨k.w.app L,k.e.app L,k.c.app L,k.g.app L,k.r.app L,k.t.app L⟩
structure SFit (s:Setup):Prop where
 places:Fit s.places
 pace:jq s.pace
 elements:∀e∈s.elements,jq e.1/\jq e.2
 classes:∀p∈s.classes,jq p
 gears:∀p∈s.gears,jq p
 tiers:∀t∈s.tiers,jq t
 nw:s.ways.length<9223372036854775808
 ne:s.elements.length<9223372036854775808
 nc:s.classes.length<9223372036854775808
 ng:s.gears.length<9223372036854775808
 nr:s.rates.length<9223372036854775808
 nt:s.tiers.length<9223372036854775808
def JY(places:Int)(w:Way):Bool:= !QA 0 (wr (places - 1)) [w.1,w.2.1] || w.1==w.2.1 || !QA 1 10000 [w.2.2]
theorem c76(h:List Ob)(i:Nat)(s:Setup)(a:SA)(w:Way)(c:h[i]? =some (.box 30 (qg s a))):
  ACalls Tryz.prog 141 [.ag (JE w),.ptr i 0] h λr h'=>r=bl (JY s.places w)/\h'=h:=by
 refine zi Tryz.f141 [.tmp 3] 28 rfl rfl rfl rfl rfl rfl (by decide) (⟨_,_,⟨rfl,rfl⟩,.refl⟩) λB=>?_
 simp only[go_sem,c,JE]
 have f:∀M,(h++M)[i]? =some (.box 30 (qg s a)):=λM=>ze c
 simp only[go_sem,f]
 refine zg (c77 _ _ 0 _ [w.1,w.2.1] (by simp) ⟨by simp only[go_sem,qn],λ_=>by simp only[go_sem,qn]⟩) ?_
 rintro _ g ⟨rfl,d⟩
 subst d
 simp only[go_sem]
 refine ways (λe=>?_) (λe=>?_)
 ·have e:=vq e
  simp only[go_sem,e]
  refine ways (λb=>?_) (λb=>?_)
  ·have b:=vq b
   simp only[go_sem,e,b]
   refine zg (c77 _ _ 1 10000 [w.2.2] (by simp) ⟨by simp only[go_sem,qn],λ_=>by simp only[go_sem,qn]⟩) ?_
   rintro _ g ⟨rfl,d⟩
   subst d
   simp only[go_sem,e,b]
   refine zn ?_<;>(simp only[go_sem,JY,e,b]<;>try rfl)
  ·have b:=vp b
   simp only[go_sem,e,b]
   refine zn ?_<;>(simp only[go_sem,JY,e,b]<;>try rfl)
 ·have e:=vp e
  simp only[go_sem,e]
  refine zn ?_<;>(simp only[go_sem,JY,e]<;>try rfl)
def yU(s:Setup):Bool:=QA 1 16 [s.places] && decide ((s.ways.length:Int)<=64) && !s.ways.any (JY s.places)
theorem c47(h:List Ob)(s:Setup)(a:SA)(k:SIn h s a)(f:SFit s):ACalls Tryz.prog 64 [je s a] h λr h'=>r=bl (yU s)/\h'=h:=by
 refine zi Tryz.f64 [.tmp 2] 22 rfl rfl rfl rfl rfl rfl (by decide) (⟨_,_,⟨rfl,rfl⟩,.refl⟩) λB=>?_
 simp only[go_sem,k.w.one,k.e.one,k.c.one,k.g.one,k.r.one,k.t.one]
 refine zg (c77 _ _ 1 16 [s.places] (by simp) ⟨by simp only[go_sem,qn],λ_=>by simp only[go_sem,qn]⟩) ?_
 rintro _ l ⟨rfl,i⟩
 subst i
 simp only[go_sem]
 refine ways (λe=>?_) (λe=>?_)
 ·have e:=xQ e
  simp only[go_sem,e,(k.app _).w.rows,zb]
  refine ways (λb=>?_) (λb=>?_)
  ·have b:=xQ b
   simp only[go_sem,e,b]
   refine zg (c78 _ a.w 141 _ (s.ways.map JE) (λr=>JY s.places (Xpa r)) (by simpa using f.nw) (λr j=>by obtain⟨p,_,rfl⟩:=zr.1 j;rfl) (k.app _).w ?_) ?_
   ·intro row d L
    obtain⟨p,m,rfl⟩:=zr.1 d
    refine c76 _ _ s a p ?_
    simp only[go_sem]
   ·rintro _ l ⟨rfl,i⟩
    subst i
    simp only[go_sem]
    refine zn ?_<;>(simp only[go_sem,yU,e,b,List.any_map,Function.comp_def,JE,Xpa]<;>try rfl)
  ·have b:=xP b
   simp only[go_sem,e,b]
   refine zn ?_<;>(simp only[go_sem,yU,e,b]<;>try rfl)
 ·have e:=xP e
  simp only[go_sem,e]
  refine zn ?_<;>(simp only[go_sem,yU,e]<;>try rfl)
def VK(e:Elt):Bool:= !Xy [e.1,e.2]
theorem c79(e:Elt)(a:jq e.1/\jq e.2):xA Tryz.prog 144 [.ag (JF e)] (bl (VK e)):=λh=>by
 refine zi Tryz.f144 [.tmp 2] 10 rfl rfl rfl rfl rfl rfl (by decide) (⟨_,_,⟨rfl,rfl⟩,.refl⟩) λB=>?_
 simp only[go_sem,JF]
 refine zg (c80 _ _ [e.1,e.2] (by simpa using a) (by simp) ⟨by simp only[go_sem,jH],λ_=>by simp only[go_sem,jH]⟩) ?_
 rintro _ c ⟨rfl,b⟩
 subst b
 simp only[go_sem]
 refine zn ?_<;>(simp only[go_sem,VK]<;>try rfl)
def VNa(a b c:Int):Int:=if c>(if b>a then b else a) then c else(if b>a then b else a)
def yV(s:Setup):Bool:=Xy [s.pace] && Xy s.classes && Xy s.gears && !s.elements.any VK && decide (VNa s.elements.length s.classes.length s.gears.length<=8)
theorem c48(h:List Ob)(s:Setup)(a:SA)(k:SIn h s a)(f:SFit s):ACalls Tryz.prog 65 [je s a] h λr h'=>r=bl (yV s)/\h'=h:=by
 refine zi Tryz.f65 [.tmp 2] 38 rfl rfl rfl rfl rfl rfl (by decide) (⟨_,_,⟨rfl,rfl⟩,.refl⟩) λB=>?_
 simp only[go_sem,k.w.one,k.e.one,k.c.one,k.g.one,k.r.one,k.t.one]
 refine zg (c80 _ _ [s.pace] (by simpa using f.pace) (by simp) ⟨by simp only[go_sem,jH],λ_=>by simp only[go_sem,jH]⟩) ?_
 rintro _ n ⟨rfl,j⟩
 subst j
 simp only[go_sem]
 refine ways (λe=>?_) (λe=>?_)
 ·have e:=xQ e
  simp only[go_sem,e]
  refine zg (c80 _ a.c s.classes f.classes f.nc (k.app _).c) ?_
  rintro _ n ⟨rfl,j⟩
  subst j
  simp only[go_sem,e]
  refine ways (λb=>?_) (λb=>?_)
  ·have b:=xQ b
   simp only[go_sem,e,b]
   refine zg (c80 _ a.g s.gears f.gears f.ng (k.app _).g) ?_
   rintro _ n ⟨rfl,j⟩
   subst j
   simp only[go_sem,e,b]
   refine ways (λd=>?_) (λd=>?_)
   ·have d:=xQ d
    simp only[go_sem,e,b,d]
    refine zg (c81 _ a.e 144 _ (s.elements.map JF) (λr=>VK (wca r)) (by simpa using f.ne) (λr q=>by obtain⟨p,_,rfl⟩:=zr.1 q;rfl) (k.app _).e ?_) ?_
    ·intro row m L
     obtain⟨p,o,rfl⟩:=zr.1 m
     exact c79 p (f.elements p o) _
    ·rintro _ n ⟨rfl,j⟩
     subst j
     have l:(s.elements.map JF).any (λr=>VK (wca r))=s.elements.any VK:=by simp only[List.any_map,Function.comp_def,JF,wca]
     simp only[go_sem,l,e,b,d]
     refine ways (λi=>?_) (λi=>?_)
     ·have i:=xQ i
      simp only[go_sem,e,b,d,i,(k.app _).e.rows,(k.app _).c.rows,(k.app _).g.rows,zb]
      refine zn ?_<;>(simp only[go_sem,yV,e,b,d,i,VNa]<;>try rfl)
     ·have i:=xP i
      simp only[go_sem,e,b,d,i]
      refine zn ?_<;>(simp only[go_sem,yV,e,b,d,i]<;>try rfl)
   ·have d:=xP d
    simp only[go_sem,e,b,d]
    refine zn ?_<;>(simp only[go_sem,yV,e,b,d]<;>try rfl)
  ·have b:=xP b
   simp only[go_sem,e,b]
   refine zn ?_<;>(simp only[go_sem,yV,e,b]<;>try rfl)
 ·have e:=xP e
  simp only[go_sem,e]
  refine zn ?_<;>(simp only[go_sem,yV,e]<;>try rfl)
def wZ(s:Setup):Bool:=QA 0 100 [s.allow] && QA 1 3600 [s.unit] && QA 60 57600 [s.cap] && QA 0 86400 [s.paidBreak,s.autoAfter,s.autoBreak,s.nightFrom,s.nightTo,s.fault,s.dayOver] && QA 0 s.dayOver [s.dayReg] && QA 0 604800 [s.weekReg]
theorem c49(h:List Ob)(s:Setup)(a:SA)(k:SIn h s a)(f:SFit s):ACalls Tryz.prog 66 [je s a] h λr h'=>r=bl (wZ s)/\h'=h:=by
 refine zi Tryz.f66 [.tmp 2] 51 rfl rfl rfl rfl rfl rfl (by decide) (⟨_,_,⟨rfl,rfl⟩,.refl⟩) λB=>?_
 simp only[go_sem,k.w.one,k.e.one,k.c.one,k.g.one,k.r.one,k.t.one]
 refine zg (c77 _ _ 0 100 [s.allow] (by simp) ⟨by simp only[go_sem,qn],λ_=>by simp only[go_sem,qn]⟩) ?_
 rintro _ n ⟨rfl,l⟩
 subst l
 simp only[go_sem]
 refine ways (λb=>?_) (λb=>?_)
 ·have b:=xQ b
  simp only[go_sem,b]
  refine zg (c77 _ _ 1 3600 [s.unit] (by simp) ⟨by simp only[go_sem,qn],λ_=>by simp only[go_sem,qn]⟩) ?_
  rintro _ n ⟨rfl,l⟩
  subst l
  simp only[go_sem,b]
  refine ways (λd=>?_) (λd=>?_)
  ·have d:=xQ d
   simp only[go_sem,b,d]
   refine zg (c77 _ _ 60 57600 [s.cap] (by simp) ⟨by simp only[go_sem,qn],λ_=>by simp only[go_sem,qn]⟩) ?_
   rintro _ n ⟨rfl,l⟩
   subst l
   simp only[go_sem,b,d]
   refine ways (λi=>?_) (λi=>?_)
   ·have i:=xQ i
    simp only[go_sem,b,d,i]
    refine zg (c77 _ _ 0 86400 [s.paidBreak,s.autoAfter,s.autoBreak,s.nightFrom,s.nightTo,s.fault,s.dayOver] (by simp) ⟨by simp only[go_sem,qn],λ_=>by simp only[go_sem,qn]⟩) ?_
    rintro _ n ⟨rfl,l⟩
    subst l
    simp only[go_sem,b,d,i]
    refine ways (λj=>?_) (λj=>?_)
    ·have j:=xQ j
     simp only[go_sem,b,d,i,j]
     refine zg (c77 _ _ 0 _ [s.dayReg] (by simp) ⟨by simp only[go_sem,qn],λ_=>by simp only[go_sem,qn]⟩) ?_
     rintro _ n ⟨rfl,l⟩
     subst l
     simp only[go_sem,b,d,i,j]
     refine ways (λm=>?_) (λm=>?_)
     ·have m:=xQ m
      simp only[go_sem,b,d,i,j,m]
      refine zg (c77 _ _ 0 604800 [s.weekReg] (by simp) ⟨by simp only[go_sem,qn],λ_=>by simp only[go_sem,qn]⟩) ?_
      rintro _ n ⟨rfl,l⟩
      subst l
      simp only[go_sem,b,d,i,j,m]
      refine zn ?_<;>(simp only[go_sem,wZ,b,d,i,j,m]<;>try rfl)
     ·have m:=xP m
      simp only[go_sem,b,d,i,j,m]
      refine zn ?_<;>(simp only[go_sem,wZ,b,d,i,j,m]<;>try rfl)
    ·have j:=xP j
     simp only[go_sem,b,d,i,j]
     refine zn ?_<;>(simp only[go_sem,wZ,b,d,i,j]<;>try rfl)
   ·have i:=xP i
    simp only[go_sem,b,d,i]
    refine zn ?_<;>(simp only[go_sem,wZ,b,d,i]<;>try rfl)
  ·have d:=xP d
   simp only[go_sem,b,d]
   refine zn ?_<;>(simp only[go_sem,wZ,b,d]<;>try rfl)
 ·have b:=xP b
  simp only[go_sem,b]
  refine zn ?_<;>(simp only[go_sem,wZ,b]<;>try rfl)
def Zq(last:Int)(t:K2):Bool:=decide (t.1<=last) || decide (t.1>1000) || !QA 0 100000 [t.2]
theorem c82(h:List Ob)(i:Nat)(last:Int)(t:K2)(c:h[i]? =some (.box 3 [i64 last])):
  ACalls Tryz.prog 147 [.ag (jH t),.ptr i 0] h λr h'=>r=bl (Zq last t)/\h'=h.set i (.box 3 [i64 t.1]):=by
 have d:∀M,(h++M)[i]? =some (.box 3 [i64 last]):=λM=>ze c
 have f:∀M o,(h++M).set i o=h.set i o++M:=λM o=>jk c
 have fin:∀(T:Env) (M:List Ob) (b:Bool),T 3=bl b->b=Zq last t->vIa Tryz.prog [.tmp 3] h (λr h'=>r=bl (Zq last t)/\h'=h.set i (.box 3 [i64 t.1])) .ret T (h.set i (.box 3 [i64 t.1])++M):=λT M b j g=>
  ⟨bl b,by simp only[go_sem,j],.inr ⟨_,M,rfl,by simp,rfl,KeepLt.refl.set rfl rfl,by rw[g],rfl⟩⟩
 refine zi Tryz.f147 [.tmp 3] 24 rfl rfl rfl rfl rfl rfl (by decide) (⟨_,_,⟨rfl,rfl⟩,qi c rfl⟩) λB=>?_
 simp only[go_sem,c,jH,d]
 refine ways (λe=>?_) (λe=>?_)
 ·have e:=vq e
  simp only[go_sem,e]
  refine ways (λa=>?_) (λa=>?_)
  ·have a:=vq a
   simp only[go_sem,e,a]
   refine zg (c77 _ _ 0 100000 [t.2] (by simp) ⟨by simp only[go_sem,qn],λ_=>by simp only[go_sem,qn]⟩) ?_
   rintro _ k ⟨rfl,g⟩
   subst g
   simp only[go_sem,e,a,d,f]
   refine fin _ _ (!QA 0 100000 [t.2]) ?_ ?_
   ·simp only[go_sem]
   ·simp only[Zq,e,a,Bool.false_or]
  ·have a:=vp a
   simp only[go_sem,e,a,d,f]
   refine fin _ _ true ?_ ?_
   ·simp only[go_sem]
   ·simp only[Zq,e,a,Bool.false_or,Bool.true_or]
 ·have e:=vp e
  simp only[go_sem,e,d,f]
  refine fin _ _ true ?_ ?_
  ·simp only[go_sem]
  ·simp only[Zq,e,Bool.true_or]
def ku:Int->List K2->Bool
 | _,[]=>false
 | last,t::l=>Zq last t || ku t.1 l
theorem x7b(h:List Ob)(x:AV)(i:Nat)(last:Int)(l:List K2)(G:l.length<9223372036854775808)(C:∀o,SlOf (h.set i o) x 2 (l.map jH))(f:h[i]? =some (.box 3 [i64 last])):
  ACalls Tryz.prog 216 [x,.fn (.func 147) [] [.ptr i 0]] h λr h'=>∃n m,r=i64 n/\h'=h.set i (.box 3 [i64 m])/\decide (n≥0)=ku last l:=by
 have c:h.set i (.box 3 [i64 last])=h:=by
  apply qX
  intro j
  by_cases D:j=i
  ·subst D;rw[zm f,f]
  ·rw[zc (λe=>D e.symm)]
 have s:=C (.box 3 [i64 last])
 rw[c] at s
 refine zi Tryz.f216 [.tmp 4] 19 rfl rfl rfl rfl rfl rfl (by decide) (⟨_,_,⟨if ku last l then 0 else -1,last,rfl,rfl,by split<;>simp_all⟩,qi f rfl⟩) λB=>?_
 simp only[go_sem,s.rows,zb]
 refine zI (by decide) (λn T h'=>∃(k:Nat) (d:Int),h'=h.set i (.box 3 [i64 d])/\T 0=x/\T 1= .fn (.func 147) [] [.ptr i 0]/\T 7=i64 l.length/\T 8=i64 k/\k<=l.length/\ku last l=ku d (l.drop k)/\n=l.length - k) l.length
  ⟨0,last,c.symm,by simp only[go_sem],by simp only[go_sem],by simp only[go_sem],by(simp only[go_sem]<;>rfl),by omega,rfl,rfl⟩ ?_
 rintro n T h' ⟨k,d,rfl,t0,t1,w,t8,H,h0,rfl⟩
 have A:=zm (b:=Ob.box 3 [i64 d]) f
 have p:∀o,(h.set i (.box 3 [i64 d])).set i o=h.set i o:=λo=>qd ..
 have q:=C (.box 3 [i64 d])
 simp only[go_sem,w,t8]
 refine ways (λv=>?_) (λv=>?_)
 ·have a:k<l.length:=by simpa using v
  have u:=q.at (i:=k) (by simpa using a)
  have g:(l.map jH)[k]? =some (jH l[k]):=by simp[a]
  have t:(k:Int)<l.length:=by omega
  have z:=c82 (h.set i (.box 3 [i64 d])) i d l[k] A
  rw[p] at z
  simp only[jH] at g z
  rw[qU a] at h0
  simp only[go_sem,u,q.rows,g,t,t0,t1,w,t8,Int.toNat_natCast,zh,zb]
  refine zg z ?_
  rintro _ F ⟨rfl,E⟩
  subst E
  simp only[go_sem]
  refine ways (λy=>?_) (λy=>?_)
  ·simp only[go_sem,t8]
   exact⟨i64 k,by simp only[go_sem],.inl ⟨k,l[k].1,rfl,rfl,by rw[h0];simp[ku,y]⟩⟩
  ·simp only[go_sem,t8,xF (show k<9223372036854775807 by omega)]
   refine⟨l.length - (k+1),by omega,k+1,l[k].1,rfl,t0,t1,w,rfl,by omega,?_,rfl⟩
   rw[h0];simp[ku,y]
 ·have a:k=l.length:=by
   have:¬ (k:Int)<l.length:=by simpa using v
   omega
  rw[a,List.drop_length] at h0
  simp only[go_sem]
  exact⟨i64 (-1),by simp only[go_sem],.inl ⟨-1,d,rfl,rfl,by rw[h0];rfl⟩⟩
theorem c83(h:List Ob)(x:AV)(i:Nat)(last:Int)(l:List K2)(f:l.length<9223372036854775808)(c:∀o,SlOf (h.set i o) x 2 (l.map jH))(b:h[i]? =some (.box 3 [i64 last])):
  ACalls Tryz.prog 148 [x,.fn (.func 147) [] [.ptr i 0]] h λr h'=>r=bl (ku last l)/\∃a,h'=h.set i (.box 3 [i64 a]):=by
 refine zi Tryz.f148 [.tmp 4] 9 rfl rfl rfl rfl rfl rfl (by decide) (⟨_,_,⟨rfl,last,rfl⟩,qi b rfl⟩) λB=>?_
 simp only[go_sem]
 refine zg (x7b h x i last l f c b) ?_
 rintro _ j ⟨n,g,rfl,d,e⟩
 subst d
 simp only[go_sem,e]
 exact⟨bl (ku last l),by simp only[go_sem],.inl ⟨rfl,g,rfl⟩⟩
def w8(s:Setup):Bool:=decide ((s.rates.length:Int)>0) && decide ((s.rates.length:Int)<=16) && QA 0 100000 s.rates && QA 0 100000 [s.diff,s.least] && decide ((s.tiers.length:Int)<=8) && !ku (-1) s.tiers
theorem c50(h:List Ob)(s:Setup)(a:SA)(k:SIn h s a)(f:SFit s):ACalls Tryz.prog 67 [je s a] h λr h'=>r=bl (w8 s)/\h'=h:=by
 refine zi Tryz.f67 [.tmp 2] 42 rfl rfl rfl rfl rfl rfl (by decide) (⟨_,_,⟨rfl,rfl⟩,.refl⟩) λB=>?_
 simp only[go_sem,k.w.one,k.e.one,k.c.one,k.g.one,k.r.one,k.t.one,(k.app _).r.rows,zb]
 refine ways (λb=>?_) (λb=>?_)
 ·have b:=xQ b
  simp only[go_sem,b,(k.app _).r.rows,(k.app _).t.rows,zb]
  refine ways (λd=>?_) (λd=>?_)
  ·have d:=xQ d
   simp only[go_sem,b,d,(k.app _).r.rows,(k.app _).t.rows,zb]
   refine zg (c77 _ a.r 0 100000 s.rates f.nr (k.app _).r) ?_
   rintro _ n ⟨rfl,m⟩
   subst m
   simp only[go_sem,b,d,(k.app _).r.rows,(k.app _).t.rows,zb]
   refine ways (λi=>?_) (λi=>?_)
   ·have i:=xQ i
    simp only[go_sem,b,d,i,(k.app _).r.rows,(k.app _).t.rows,zb]
    refine zg (c77 _ _ 0 100000 [s.diff,s.least] (by simp) ⟨by simp only[go_sem,qn],λ_=>by simp only[go_sem,qn]⟩) ?_
    rintro _ n ⟨rfl,m⟩
    subst m
    simp only[go_sem,b,d,i,(k.app _).r.rows,(k.app _).t.rows,zb]
    refine ways (λj=>?_) (λj=>?_)
    ·have j:=xQ j
     simp only[go_sem,b,d,i,j,(k.app _).r.rows,(k.app _).t.rows,zb]
     refine ways (λl=>?_) (λl=>?_)
     ·have l:=xQ l
      simp only[go_sem,b,d,i,j,l,(k.app _).r.rows,(k.app _).t.rows,zb]
      refine zg (c83 _ a.t _ (-1) s.tiers f.nt (λo=>by simp only[go_sem];exact(k.app _).t) (by simp only[go_sem])) ?_
      rintro _ n ⟨rfl,p,m⟩
      subst m
      simp only[go_sem,b,d,i,j,l,(k.app _).r.rows,(k.app _).t.rows,zb]
      refine zn ?_<;>(simp only[go_sem,w8,b,d,i,j,l,(k.app _).r.rows,(k.app _).t.rows,zb]<;>try rfl)
     ·have l:=xP l
      simp only[go_sem,b,d,i,j,l]
      refine zn ?_<;>(simp only[go_sem,w8,b,d,i,j,l]<;>try rfl)
    ·have j:=xP j
     simp only[go_sem,b,d,i,j]
     refine zn ?_<;>(simp only[go_sem,w8,b,d,i,j]<;>try rfl)
   ·have i:=xP i
    simp only[go_sem,b,d,i]
    refine zn ?_<;>(simp only[go_sem,w8,b,d,i]<;>try rfl)
  ·have d:=xP d
   simp only[go_sem,b,d]
   refine zn ?_<;>(simp only[go_sem,w8,b,d]<;>try rfl)
 ·have b:=xP b
  simp only[go_sem,b]
  refine zn ?_<;>(simp only[go_sem,w8,b]<;>try rfl)
def z6(s:Setup):Bool:=yU s && yV s && wZ s && w8 s
theorem c16(h:List Ob)(s:Setup)(a:SA)(k:SIn h s a)(f:SFit s):ACalls Tryz.prog 20 [je s a] h λr h'=>r=bl (z6 s)/\h'=h:=by
 refine zi Tryz.f20 [.tmp 2] 17 rfl rfl rfl rfl rfl rfl (by decide) (⟨_,_,⟨rfl,rfl⟩,.refl⟩) λB=>?_
 simp only[go_sem,k.w.one,k.e.one,k.c.one,k.g.one,k.r.one,k.t.one]
 refine zg (c47 _ s a (k.app _) f) ?_
 rintro _ l ⟨rfl,j⟩
 subst j
 simp only[go_sem]
 refine ways (λb=>?_) (λb=>?_)
 ·have b:=xQ b
  simp only[go_sem,b]
  refine zg (c48 _ s a (k.app _) f) ?_
  rintro _ l ⟨rfl,j⟩
  subst j
  simp only[go_sem,b]
  refine ways (λd=>?_) (λd=>?_)
  ·have d:=xQ d
   simp only[go_sem,b,d]
   refine zg (c49 _ s a (k.app _) f) ?_
   rintro _ l ⟨rfl,j⟩
   subst j
   simp only[go_sem,b,d]
   refine ways (λi=>?_) (λi=>?_)
   ·have i:=xQ i
    simp only[go_sem,b,d,i]
    refine zg (c50 _ s a (k.app _) f) ?_
    rintro _ l ⟨rfl,j⟩
    subst j
    simp only[go_sem,b,d,i]
    refine zn ?_<;>(simp only[go_sem,z6,b,d,i]<;>try rfl)
   ·have i:=xP i
    simp only[go_sem,b,d,i]
    refine zn ?_<;>(simp only[go_sem,z6,b,d,i]<;>try rfl)
  ·have d:=xP d
   simp only[go_sem,b,d]
   refine zn ?_<;>(simp only[go_sem,z6,b,d]<;>try rfl)
 ·have b:=xP b
  simp only[go_sem,b]
  refine zn ?_<;>(simp only[go_sem,z6,b]<;>try rfl)
attribute [go_sem] Voa Vpa Ysa Ywa Yla Yxa jeb
structure Ev where
 id:Int
 worker:Int
 at_:Int
 kind:Int
 from_:Int
 to_:Int
 element:Int
 units:Int
 class_:Int
 gear:Int
 code:Int
abbrev evC(e:Ev):List AV:=[i64 e.id,i64 e.worker,i64 e.at_,i64 e.kind,i64 e.from_,i64 e.to_,i64 e.element,i64 e.units,i64 e.class_,i64 e.gear,i64 e.code]
abbrev evV(e:Ev):AV:= .ag (evC e)
def wm(i:Nat)(k:Int):List (List AV):=if k=3 then [[.ptr i 4],[.ptr i 5],[.ptr i 6],[.ptr i 7],[.ptr i 8],[.ptr i 9]] else if k=4 then [[.ptr i 10]] else []
def VL(k:Int):Bool:=1==k || (2==k || (3==k || (4==k || (5==k || (6==k || 7==k)))))
theorem c71(h:List Ob)(i:Nat)(e:Ev)(hi:h[i]? =some (.box 75 (evC e))):
  ACalls Tryz.prog 180 [.ptr i 0] h λr h'=>∃L x,h'=h++L/\r= .tup [x,bl (VL e.kind)]/\∀a:List Ob,a.length=h.length->SlOf (a++L) x 1 (wm i e.kind):=by
 have b:∀M,(h++M)[i]? =some (.box 75 (evC e)):=λM=>ze hi
 refine zi Tryz.f180 [.tmp 2,.tmp 3] 43 rfl rfl rfl rfl rfl rfl (by decide) (⟨_,h,⟨[],.sl 1 _,by simp,rfl,λ_ _=>⟨rfl,λ_=>rfl⟩⟩,.refl⟩) λB=>?_
 simp only[go_sem,hi]
 refine zL rfl [.res,.res,.res] 3 [(6,0,[]),(7,0,[]),(8,0,[]),(9,0,[]),(10,0,[]),(11,0,[]),(12,0,[]),(13,0,[]),(14,0,[]),(15,0,[]),(16,0,[]),(17,0,[]),(18,0,[]),(19,0,[]),(20,0,[]),(21,0,[]),(22,0,[]),(23,0,[]),(26,0,[]),(27,0,[]),(28,0,[]),(0,0,[]),(1,0,[]),(2,0,[]),(3,0,[]),(4,0,[]),(5,0,[]),(24,1,[]),(25,0,[]),(29,2,[]),(30,0,[]),(31,0,[]),(32,0,[])] rfl (by decide) (by decide) ?_
 simp only[go_sem,b]
 refine⟨.tup [if 1=e.kind then AV.v (Value.slice none 0 0) else if 2=e.kind then AV.v (Value.slice none 0 0) else if 3=e.kind then AV.tl (h.length+1) 0 else if 4=e.kind then AV.tl (h.length+2) 0 else if 5=e.kind then AV.v (Value.slice none 0 0) else if 6=e.kind then AV.v (Value.slice none 0 0) else if 7=e.kind then AV.v (Value.slice none 0 0) else AV.v (Value.slice none 0 0),bl (VL e.kind)],by simp only[go_sem,VL]<;>rfl,.inl ⟨_,_,rfl,rfl,λa c=>?_⟩⟩
 rw[<-c]
 by_cases k1:e.kind=3
 ·rw[wm,if_pos k1,k1]
  exact⟨by simp only[go_sem],λ_=>by simp only[go_sem]⟩
 ·by_cases k2:e.kind=4
  ·rw[wm,if_neg k1,if_pos k2,k2]
   exact⟨by simp only[go_sem],λ_=>by simp only[go_sem]⟩
  ·rw[wm,if_neg k1,if_neg k2]
   have a1:¬ 3=e.kind:=λh=>k1 h.symm
   have a2:¬ 4=e.kind:=λh=>k2 h.symm
   simp only[if_neg a1,if_neg a2,ite_self]
   exact⟨rfl,λh=>absurd rfl h⟩
def Q4(n a:Int):Bool:=decide (n≥0) && decide (n<=a)
theorem c72(n a:Int):xA Tryz.prog 181 [i64 n,i64 a] (bl (Q4 n a)):=λh=>by
 refine zi Tryz.f181 [.tmp 4] 12 rfl rfl rfl rfl rfl rfl (by decide) (⟨_,_,⟨rfl,rfl⟩,.refl⟩) λB=>?_
 simp only[go_sem]
 refine ways (λe=>?_) (λe=>?_)
 ·have e:=xQ e
  simp only[go_sem,e]
  refine zn ?_<;>(simp only[go_sem,Q4,e]<;>try rfl)
 ·have e:=xP e
  simp only[go_sem,e]
  refine zn ?_<;>(simp only[go_sem,Q4,e]<;>try rfl)
theorem jib(n:Int):xA Tryz.prog 195 [i64 n] (bl false):=λh=>by
 refine zi Tryz.f195 [.tmp 2] 6 rfl rfl rfl rfl rfl rfl (by decide) (⟨_,_,⟨rfl,rfl⟩,.refl⟩) λB=>?_
 simp only[go_sem]
 refine zn ?_<;>(simp only[go_sem,bne_self_eq_false]<;>try rfl)
def Kh(a b:Int):Int:=if a<b then -1 else if a>b then 1 else 0
theorem c95(a b:Int):xA Tryz.prog 122 [i64 a,i64 b] (i64 (Kh a b)):=λh=>by
 refine zi Tryz.f122 [.tmp 4] 20 rfl rfl rfl rfl rfl rfl (by decide) (⟨_,_,⟨rfl,rfl⟩,.refl⟩) λB=>?_
 simp only[go_sem]
 refine zg (jib a _) ?_
 rintro _ _ ⟨rfl,rfl⟩
 simp only[go_sem]
 refine zg (jib b _) ?_
 rintro _ _ ⟨rfl,rfl⟩
 simp only[go_sem]
 refine ways (λe=>?_) (λe=>?_)
 ·simp only[go_sem]
  refine zn ?_<;>(simp only[go_sem,Kh,of_decide_eq_true e]<;>try rfl)
 ·simp only[go_sem]
  refine ways (λc=>?_) (λc=>?_)
  ·simp only[go_sem]
   refine zn ?_<;>(simp only[go_sem,Kh,of_decide_eq_false e,of_decide_eq_true c]<;>try rfl)
  ·simp only[go_sem]
   refine zn ?_<;>(simp only[go_sem,Kh,of_decide_eq_false e,of_decide_eq_false c]<;>try rfl)
def orI:List Int->Int
 | []=>0
 | n::l=>if n≠0 then n else orI l
theorem x8b(h:List Ob)(x:AV)(a b:Int)(c:SlOf h x 1 [[i64 a],[i64 b]]):ACalls Tryz.prog 176 [x] h λr h'=>r=i64 (orI [a,b])/\h'=h:=by
 have j:=c.at (i:=0) (by simp)
 refine zi Tryz.f176 [.tmp 2] 18 rfl rfl rfl rfl rfl rfl (by decide) (⟨_,_,⟨rfl,rfl⟩,.refl⟩) λB=>?_
 simp only[go_sem,c.rows]
 refine yA 3 (xB (by decide) ?_)
 simp only[go_sem,c.rows,j]
 refine ways (λe=>?_) (λe=>?_)
 ·simp only[go_sem]
  have d:¬ a=0:=by simpa using e
  refine zn ?_<;>(simp only[go_sem,orI,d,ne_eq,not_false_eq_true]<;>try rfl)
 ·have d:a=0:=by simpa using e
  simp only[go_sem]
  refine xB (by decide) ?_
  simp only[go_sem,c.rows,j]
  refine ways (λf=>?_) (λf=>?_)
  ·simp only[go_sem]
   have g:¬ b=0:=by simpa using f
   refine zn ?_<;>(simp only[go_sem,orI,d,g,ne_eq,not_false_eq_true,not_true_eq_false]<;>try rfl)
  ·have g:b=0:=by simpa using f
   simp only[go_sem]
   refine xB (by decide) ?_
   simp only[go_sem]
   refine zn ?_<;>(simp only[go_sem,orI,d,g,ne_eq,not_false_eq_true,not_true_eq_false]<;>try rfl)
def VOa(a b:Ev):Int:=orI [Kh a.at_ b.at_,Kh a.id b.id]
theorem c89(a b:Ev):xA Tryz.prog 111 [evV a,evV b] (i64 (VOa a b)):=λh=>by
 refine zi Tryz.f111 [.tmp 4] 17 rfl rfl rfl rfl rfl rfl (by decide) (⟨_,_,⟨rfl,rfl⟩,.refl⟩) λB=>?_
 simp only[go_sem]
 refine zL rfl [.res] 1 [(0,0,[]),(2,0,[]),(5,0,[]),(7,0,[]),(1,0,[]),(3,0,[]),(6,0,[]),(8,0,[]),(4,0,[6,8]),(9,0,[]),(10,0,[]),(11,0,[]),(12,0,[])] rfl (by decide) (by decide) ?_
 simp only[go_sem]
 refine zg (c95 a.at_ b.at_ _) ?_
 rintro _ d ⟨rfl,c⟩
 subst c
 simp only[go_sem]
 refine zg (c95 a.id b.id _) ?_
 rintro _ d ⟨rfl,c⟩
 subst c
 simp only[go_sem]
 refine zg (x8b _ _ (Kh a.at_ b.at_) (Kh a.id b.id) ⟨by simp only[go_sem],λ_=>by simp only[go_sem]⟩) ?_
 rintro _ d ⟨rfl,c⟩
 subst c
 simp only[go_sem]
 refine zn ?_<;>(simp only[go_sem,VOa]<;>try rfl)
