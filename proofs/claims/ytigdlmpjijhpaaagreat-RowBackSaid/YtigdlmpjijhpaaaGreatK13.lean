import Derived.Test.YtigdlmpjijhpaaaGreatKA
import Derived.Test.YtigdlmpjijhpaaaGreatK12
set_option linter.all false
namespace Go.Proofs.YtigdlmpjijhpaaaGreat.Ax
open Go Go.Proofs
set_option maxRecDepth 100000
attribute [go_sem] Vda
def Zca:List AV->Int
 | [.v (.int _ n)]=>n
 | _=>0
def qI(n:Int):List AV:=[i64 n]
def Yb(lo hi n:Int):Bool:=decide (n<lo) || decide (n>hi)
def Zu(lo hi:Int)(l:List Int):Bool:= !l.any (Yb lo hi)
theorem c99(h:List Ob)(i j:Nat)(lo hi n:Int)(a:h[i]? =some (.box 3 [i64 lo]))(b:h[j]? =some (.box 3 [i64 hi])):
  ACalls Tryz.prog 211 [i64 n,.ptr i 0,.ptr j 0] h λr h'=>r=bl (Yb lo hi n)/\h'=h:=by
 refine zl Tryz.f211 [.tmp 4] 13 rfl rfl rfl rfl rfl rfl (by decide) (⟨_,_,⟨rfl,rfl⟩,.refl⟩) λB=>?_
 simp only[go_sem,a]
 refine ways (λe=>?_) (λe=>?_)
 ·have e:=kx e
  simp only[go_sem,e,a,b]
  refine zk ?_<;>(simp only[go_sem,Yb,e]<;>try rfl)
 ·have e:=kw e
  simp only[go_sem,e,a,b]
  refine zk ?_<;>(simp only[go_sem,Yb,e]<;>try rfl)
theorem c77(h:List Ob)(x:AV)(lo hi:Int)(l:List Int)(c:l.length<9223372036854775808)(d:SlOf h x 1 (l.map qI)):
  ACalls Tryz.prog 142 [i64 lo,i64 hi,x] h λr h'=>r=bl (Zu lo hi l)/\h'=h:=by
 refine zl Tryz.f142 [.tmp 6] 11 rfl rfl rfl rfl rfl rfl (by decide) (⟨_,_,⟨rfl,rfl⟩,.refl⟩) λB=>?_
 simp only[go_sem]
 refine zi (c98 _ x 211 _ (l.map qI) (λr=>Yb lo hi (Zca r)) (by simpa using c) (by simp[qI]) (d.app _) ?_) ?_
 ·intro row a L
  obtain⟨n,_,rfl⟩:=zx.1 a
  refine c99 _ _ _ lo hi n ?_ ?_
  all_goals simp only[go_sem]
 ·rintro _ e ⟨rfl,b⟩
  subst b
  simp only[go_sem]
  refine zk ?_<;>(simp only[go_sem,Zu,List.any_map,Function.comp_def,qI,Zca]<;>try rfl)
def Xw(p:qd):Bool:=decide (p.1<0) || !rok p
theorem Yma(p:qd)(a:jf p):xv Tryz.prog 214 [rat p] (bl (Xw p)):=λh=>by
 refine zl Tryz.f214 [.tmp 2] 11 rfl rfl rfl rfl rfl rfl (by decide) (⟨_,_,⟨rfl,rfl⟩,.refl⟩) λB=>?_
 simp only[go_sem]
 refine ways (λe=>?_) (λe=>?_)
 ·have e:=kx e
  simp only[go_sem,e]
  refine zi (c27 p a.1 a.2 _) ?_
  rintro _ c ⟨rfl,b⟩
  subst b
  simp only[go_sem,e]
  refine zk ?_<;>(simp only[go_sem,Xw,e]<;>try rfl)
 ·have e:=kw e
  simp only[go_sem,e]
  refine zk ?_<;>(simp only[go_sem,Xw,e]<;>try rfl)
def Zda:List AV->qd
 | [.v (.int _ n),.v (.int _ d)]=>(n,d)
 | _=>(0,0)
def Q7(l:List qd):Bool:= !l.any Xw
theorem c80(h:List Ob)(x:AV)(l:List qd)(c:∀p∈l,jf p)(e:l.length<9223372036854775808)(f:SlOf h x 2 (l.map jG)):
  ACalls Tryz.prog 145 [x] h λr h'=>r=bl (Q7 l)/\h'=h:=by
 refine zl Tryz.f145 [.tmp 2] 6 rfl rfl rfl rfl rfl rfl (by decide) (⟨_,_,⟨rfl,rfl⟩,.refl⟩) λB=>?_
 simp only[go_sem]
 refine zi (Yja _ x 214 _ (l.map jG) (λr=>Xw (Zda r)) (by simpa using e) (λr d=>by obtain⟨p,_,rfl⟩:=zx.1 d;rfl) f ?_) ?_
 ·intro row a L
  obtain⟨p,g,rfl⟩:=zx.1 a
  exact Yma p (c p g) _
 ·rintro _ i ⟨rfl,b⟩
  subst b
  simp only[go_sem]
  refine zk ?_<;>(simp only[go_sem,Q7,List.any_map,Function.comp_def,jG,Zda]<;>try rfl)
abbrev Way:=Int × Int × Int
def X5(w:Way):List AV:=[i64 w.1,i64 w.2.1,i64 w.2.2]
def Zea:List AV->Way
 | [.v (.int _ a),.v (.int _ b),.v (.int _ m)]=>(a,b,m)
 | _=>(0,0,0)
abbrev Elt:=qd × qd
def X6(e:Elt):List AV:=[i64 e.1.1,i64 e.1.2,i64 e.2.1,i64 e.2.2]
def xQa:List AV->Elt
 | [.v (.int _ a),.v (.int _ b),.v (.int _ c),.v (.int _ d)]=>((a,b),(c,d))
 | _=>((0,0),(0,0))
abbrev Xx:=Int × Int
structure Setup where
 places:Int
 ways:List Way
 pace:qd
 elements:List Elt
 classes:List qd
 gears:List qd
 allow:Int
 unit:Int
 cap:Int
 paidBreak:Int
 autoAfter:Int
 autoBreak:Int
 dayReg:Int
 dayOver:Int
 weekReg:Int
 nightFrom:Int
 nightTo:Int
 rates:List Int
 diff:Int
 least:Int
 fault:Int
 tiers:List Xx
structure SA where
 w:AV
 e:AV
 c:AV
 g:AV
 r:AV
 t:AV
abbrev qa(s:Setup)(a:SA):List AV:=[i64 s.places,a.w,i64 s.pace.1,i64 s.pace.2,a.e,a.c,a.g,i64 s.allow,i64 s.unit,i64 s.cap,i64 s.paidBreak,i64 s.autoAfter,i64 s.autoBreak,
 i64 s.dayReg,i64 s.dayOver,i64 s.weekReg,i64 s.nightFrom,i64 s.nightTo,a.r,i64 s.diff,i64 s.least,i64 s.fault,a.t]
abbrev jm(s:Setup)(a:SA):AV:= .ag (qa s a)
structure SIn (h:List Ob) (s:Setup) (a:SA):Prop where
 w:SlOf h a.w 3 (s.ways.map X5)
 e:SlOf h a.e 4 (s.elements.map X6)
 c:SlOf h a.c 2 (s.classes.map jG)
 g:SlOf h a.g 2 (s.gears.map jG)
 r:SlOf h a.r 1 (s.rates.map qI)
 t:SlOf h a.t 2 (s.tiers.map jG)
theorem SIn.app{h:List Ob}{s:Setup}{a:SA}(k:SIn h s a)(L:List Ob):SIn (h++L) s a:=⟨k.w.app L,k.e.app L,k.c.app L,k.g.app L,k.r.app L,k.t.app L⟩
structure SFit (s:Setup):Prop where
 places:Fit s.places
 pace:jf s.pace
 elements:∀e∈s.elements,jf e.1/\jf e.2
 classes:∀p∈s.classes,jf p
 gears:∀p∈s.gears,jf p
 tiers:∀t∈s.tiers,jf t
 nw:s.ways.length<9223372036854775808
 ne:s.elements.length<9223372036854775808
 nc:s.classes.length<9223372036854775808
 ng:s.gears.length<9223372036854775808
 nr:s.rates.length<9223372036854775808
 nt:s.tiers.length<9223372036854775808
def QD(places:Int)(w:Way):Bool:= !Zu 0 (wr (places - 1)) [w.1,w.2.1] || w.1==w.2.1 || !Zu 1 10000 [w.2.2]
theorem c76(h:List Ob)(i:Nat)(s:Setup)(a:SA)(w:Way)(c:h[i]? =some (.box 30 (qa s a))):
  ACalls Tryz.prog 141 [.ag (X5 w),.ptr i 0] h λr h'=>r=bl (QD s.places w)/\h'=h:=by
 refine zl Tryz.f141 [.tmp 3] 28 rfl rfl rfl rfl rfl rfl (by decide) (⟨_,_,⟨rfl,rfl⟩,.refl⟩) λB=>?_
 simp only[go_sem,c,X5]
 have f:∀M,(h++M)[i]? =some (.box 30 (qa s a)):=λM=>zf c
 simp only[go_sem,f]
 refine zi (c77 _ _ 0 _ [w.1,w.2.1] (by simp) ⟨by simp only[go_sem,qI],λ_=>by simp only[go_sem,qI]⟩) ?_
 rintro _ g ⟨rfl,d⟩
 subst d
 simp only[go_sem]
 refine ways (λe=>?_) (λe=>?_)
 ·have e:=kx e
  simp only[go_sem,e]
  refine ways (λb=>?_) (λb=>?_)
  ·have b:=kx b
   simp only[go_sem,e,b]
   refine zi (c77 _ _ 1 10000 [w.2.2] (by simp) ⟨by simp only[go_sem,qI],λ_=>by simp only[go_sem,qI]⟩) ?_
   rintro _ g ⟨rfl,d⟩
   subst d
   simp only[go_sem,e,b]
   refine zk ?_<;>(simp only[go_sem,QD,e,b]<;>try rfl)
  ·have b:=kw b
   simp only[go_sem,e,b]
   refine zk ?_<;>(simp only[go_sem,QD,e,b]<;>try rfl)
 ·have e:=kw e
  simp only[go_sem,e]
  refine zk ?_<;>(simp only[go_sem,QD,e]<;>try rfl)
def yG(s:Setup):Bool:=Zu 1 16 [s.places] && decide ((s.ways.length:Int)<=64) && !s.ways.any (QD s.places)
theorem c47(h:List Ob)(s:Setup)(a:SA)(k:SIn h s a)(f:SFit s):ACalls Tryz.prog 64 [jm s a] h λr h'=>r=bl (yG s)/\h'=h:=by
 refine zl Tryz.f64 [.tmp 2] 22 rfl rfl rfl rfl rfl rfl (by decide) (⟨_,_,⟨rfl,rfl⟩,.refl⟩) λB=>?_
 simp only[go_sem,k.w.one,k.e.one,k.c.one,k.g.one,k.r.one,k.t.one]
 refine zi (c77 _ _ 1 16 [s.places] (by simp) ⟨by simp only[go_sem,qI],λ_=>by simp only[go_sem,qI]⟩) ?_
 rintro _ l ⟨rfl,i⟩
 subst i
 simp only[go_sem]
 refine ways (λe=>?_) (λe=>?_)
 ·have e:=xq e
  simp only[go_sem,e,(k.app _).w.rows,zb]
  refine ways (λb=>?_) (λb=>?_)
  ·have b:=xq b
   simp only[go_sem,e,b]
   refine zi (c78 _ a.w 141 _ (s.ways.map X5) (λr=>QD s.places (Zea r)) (by simpa using f.nw) (λr j=>by obtain⟨p,_,rfl⟩:=zx.1 j;rfl) (k.app _).w ?_) ?_
   ·intro row d L
    obtain⟨p,m,rfl⟩:=zx.1 d
    refine c76 _ _ s a p ?_
    simp only[go_sem]
   ·rintro _ l ⟨rfl,i⟩
    subst i
    simp only[go_sem]
    refine zk ?_<;>(simp only[go_sem,yG,e,b,List.any_map,Function.comp_def,X5,Zea]<;>try rfl)
  ·have b:=xo b
   simp only[go_sem,e,b]
   refine zk ?_<;>(simp only[go_sem,yG,e,b]<;>try rfl)
 ·have e:=xo e
  simp only[go_sem,e]
  refine zk ?_<;>(simp only[go_sem,yG,e]<;>try rfl)
def X7(e:Elt):Bool:= !Q7 [e.1,e.2]
theorem c79(e:Elt)(a:jf e.1/\jf e.2):xv Tryz.prog 144 [.ag (X6 e)] (bl (X7 e)):=λh=>by
 refine zl Tryz.f144 [.tmp 2] 10 rfl rfl rfl rfl rfl rfl (by decide) (⟨_,_,⟨rfl,rfl⟩,.refl⟩) λB=>?_
 simp only[go_sem,X6]
 refine zi (c80 _ _ [e.1,e.2] (by simpa using a) (by simp) ⟨by simp only[go_sem,jG],λ_=>by simp only[go_sem,jG]⟩) ?_
 rintro _ c ⟨rfl,b⟩
 subst b
 simp only[go_sem]
 refine zk ?_<;>(simp only[go_sem,X7]<;>try rfl)
def VTa(a b c:Int):Int:=if c>(if b>a then b else a) then c else(if b>a then b else a)
def yH(s:Setup):Bool:=Q7 [s.pace] && Q7 s.classes && Q7 s.gears && !s.elements.any X7 && decide (VTa s.elements.length s.classes.length s.gears.length<=8)
theorem c48(h:List Ob)(s:Setup)(a:SA)(k:SIn h s a)(f:SFit s):ACalls Tryz.prog 65 [jm s a] h λr h'=>r=bl (yH s)/\h'=h:=by
 refine zl Tryz.f65 [.tmp 2] 38 rfl rfl rfl rfl rfl rfl (by decide) (⟨_,_,⟨rfl,rfl⟩,.refl⟩) λB=>?_
 simp only[go_sem,k.w.one,k.e.one,k.c.one,k.g.one,k.r.one,k.t.one]
 refine zi (c80 _ _ [s.pace] (by simpa using f.pace) (by simp) ⟨by simp only[go_sem,jG],λ_=>by simp only[go_sem,jG]⟩) ?_
 rintro _ n ⟨rfl,j⟩
 subst j
 simp only[go_sem]
 refine ways (λe=>?_) (λe=>?_)
 ·have e:=xq e
  simp only[go_sem,e]
  refine zi (c80 _ a.c s.classes f.classes f.nc (k.app _).c) ?_
  rintro _ n ⟨rfl,j⟩
  subst j
  simp only[go_sem,e]
  refine ways (λb=>?_) (λb=>?_)
  ·have b:=xq b
   simp only[go_sem,e,b]
   refine zi (c80 _ a.g s.gears f.gears f.ng (k.app _).g) ?_
   rintro _ n ⟨rfl,j⟩
   subst j
   simp only[go_sem,e,b]
   refine ways (λd=>?_) (λd=>?_)
   ·have d:=xq d
    simp only[go_sem,e,b,d]
    refine zi (c81 _ a.e 144 _ (s.elements.map X6) (λr=>X7 (xQa r)) (by simpa using f.ne) (λr o=>by obtain⟨p,_,rfl⟩:=zx.1 o;rfl) (k.app _).e ?_) ?_
    ·intro row m L
     obtain⟨p,q,rfl⟩:=zx.1 m
     exact c79 p (f.elements p q) _
    ·rintro _ n ⟨rfl,j⟩
     subst j
     have l:(s.elements.map X6).any (λr=>X7 (xQa r))=s.elements.any X7:=by simp only[List.any_map,Function.comp_def,X6,xQa]
     simp only[go_sem,l,e,b,d]
     refine ways (λi=>?_) (λi=>?_)
     ·have i:=xq i
      simp only[go_sem,e,b,d,i,(k.app _).e.rows,(k.app _).c.rows,(k.app _).g.rows,zb]
      refine zk ?_<;>(simp only[go_sem,yH,e,b,d,i,VTa]<;>try rfl)
     ·have i:=xo i
      simp only[go_sem,e,b,d,i]
      refine zk ?_<;>(simp only[go_sem,yH,e,b,d,i]<;>try rfl)
   ·have d:=xo d
    simp only[go_sem,e,b,d]
    refine zk ?_<;>(simp only[go_sem,yH,e,b,d]<;>try rfl)
  ·have b:=xo b
   simp only[go_sem,e,b]
   refine zk ?_<;>(simp only[go_sem,yH,e,b]<;>try rfl)
 ·have e:=xo e
  simp only[go_sem,e]
  refine zk ?_<;>(simp only[go_sem,yH,e]<;>try rfl)
def vY(s:Setup):Bool:=Zu 0 100 [s.allow] && Zu 1 3600 [s.unit] && Zu 60 57600 [s.cap] && Zu 0 86400 [s.paidBreak,s.autoAfter,s.autoBreak,s.nightFrom,s.nightTo,s.fault,s.dayOver] && Zu 0 s.dayOver [s.dayReg] && Zu 0 604800 [s.weekReg]
theorem c49(h:List Ob)(s:Setup)(a:SA)(k:SIn h s a)(f:SFit s):ACalls Tryz.prog 66 [jm s a] h λr h'=>r=bl (vY s)/\h'=h:=by
 refine zl Tryz.f66 [.tmp 2] 51 rfl rfl rfl rfl rfl rfl (by decide) (⟨_,_,⟨rfl,rfl⟩,.refl⟩) λB=>?_
 simp only[go_sem,k.w.one,k.e.one,k.c.one,k.g.one,k.r.one,k.t.one]
 refine zi (c77 _ _ 0 100 [s.allow] (by simp) ⟨by simp only[go_sem,qI],λ_=>by simp only[go_sem,qI]⟩) ?_
 rintro _ n ⟨rfl,l⟩
 subst l
 simp only[go_sem]
 refine ways (λb=>?_) (λb=>?_)
 ·have b:=xq b
  simp only[go_sem,b]
  refine zi (c77 _ _ 1 3600 [s.unit] (by simp) ⟨by simp only[go_sem,qI],λ_=>by simp only[go_sem,qI]⟩) ?_
  rintro _ n ⟨rfl,l⟩
  subst l
  simp only[go_sem,b]
  refine ways (λd=>?_) (λd=>?_)
  ·have d:=xq d
   simp only[go_sem,b,d]
   refine zi (c77 _ _ 60 57600 [s.cap] (by simp) ⟨by simp only[go_sem,qI],λ_=>by simp only[go_sem,qI]⟩) ?_
   rintro _ n ⟨rfl,l⟩
   subst l
   simp only[go_sem,b,d]
   refine ways (λi=>?_) (λi=>?_)
   ·have i:=xq i
    simp only[go_sem,b,d,i]
    refine zi (c77 _ _ 0 86400 [s.paidBreak,s.autoAfter,s.autoBreak,s.nightFrom,s.nightTo,s.fault,s.dayOver] (by simp) ⟨by simp only[go_sem,qI],λ_=>by simp only[go_sem,qI]⟩) ?_
    rintro _ n ⟨rfl,l⟩
    subst l
    simp only[go_sem,b,d,i]
    refine ways (λj=>?_) (λj=>?_)
    ·have j:=xq j
     simp only[go_sem,b,d,i,j]
     refine zi (c77 _ _ 0 _ [s.dayReg] (by simp) ⟨by simp only[go_sem,qI],λ_=>by simp only[go_sem,qI]⟩) ?_
     rintro _ n ⟨rfl,l⟩
     subst l
     simp only[go_sem,b,d,i,j]
     refine ways (λm=>?_) (λm=>?_)
     ·have m:=xq m
      simp only[go_sem,b,d,i,j,m]
      refine zi (c77 _ _ 0 604800 [s.weekReg] (by simp) ⟨by simp only[go_sem,qI],λ_=>by simp only[go_sem,qI]⟩) ?_
      rintro _ n ⟨rfl,l⟩
      subst l
      simp only[go_sem,b,d,i,j,m]
      refine zk ?_<;>(simp only[go_sem,vY,b,d,i,j,m]<;>try rfl)
     ·have m:=xo m
      simp only[go_sem,b,d,i,j,m]
      refine zk ?_<;>(simp only[go_sem,vY,b,d,i,j,m]<;>try rfl)
    ·have j:=xo j
     simp only[go_sem,b,d,i,j]
     refine zk ?_<;>(simp only[go_sem,vY,b,d,i,j]<;>try rfl)
   ·have i:=xo i
    simp only[go_sem,b,d,i]
    refine zk ?_<;>(simp only[go_sem,vY,b,d,i]<;>try rfl)
  ·have d:=xo d
   simp only[go_sem,b,d]
   refine zk ?_<;>(simp only[go_sem,vY,b,d]<;>try rfl)
 ·have b:=xo b
  simp only[go_sem,b]
  refine zk ?_<;>(simp only[go_sem,vY,b]<;>try rfl)
def yj(last:Int)(t:Xx):Bool:=decide (t.1<=last) || decide (t.1>1000) || !Zu 0 100000 [t.2]
theorem c82(h:List Ob)(i:Nat)(last:Int)(t:Xx)(c:h[i]? =some (.box 3 [i64 last])):
  ACalls Tryz.prog 147 [.ag (jG t),.ptr i 0] h λr h'=>r=bl (yj last t)/\h'=h.set i (.box 3 [i64 t.1]):=by
 have d:∀M,(h++M)[i]? =some (.box 3 [i64 last]):=λM=>zf c
 have g:∀M o,(h++M).set i o=h.set i o++M:=λM o=>jc c
 have fin:∀(T:Env) (M:List Ob) (b:Bool),T 3=bl b->b=yj last t->qxa Tryz.prog [.tmp 3] h (λr h'=>r=bl (yj last t)/\h'=h.set i (.box 3 [i64 t.1])) .ret T (h.set i (.box 3 [i64 t.1])++M):=λT M b j f=>
  ⟨bl b,by simp only[go_sem,j],.inr ⟨_,M,rfl,by simp,rfl,KeepLt.refl.set rfl rfl,by rw[f],rfl⟩⟩
 refine zl Tryz.f147 [.tmp 3] 24 rfl rfl rfl rfl rfl rfl (by decide) (⟨_,_,⟨rfl,rfl⟩,qH c rfl⟩) λB=>?_
 simp only[go_sem,c,jG,d]
 refine ways (λe=>?_) (λe=>?_)
 ·have e:=kx e
  simp only[go_sem,e]
  refine ways (λa=>?_) (λa=>?_)
  ·have a:=kx a
   simp only[go_sem,e,a]
   refine zi (c77 _ _ 0 100000 [t.2] (by simp) ⟨by simp only[go_sem,qI],λ_=>by simp only[go_sem,qI]⟩) ?_
   rintro _ k ⟨rfl,f⟩
   subst f
   simp only[go_sem,e,a,d,g]
   refine fin _ _ (!Zu 0 100000 [t.2]) ?_ ?_
   ·simp only[go_sem]
   ·simp only[yj,e,a,Bool.false_or]
  ·have a:=kw a
   simp only[go_sem,e,a,d,g]
   refine fin _ _ true ?_ ?_
   ·simp only[go_sem]
   ·simp only[yj,e,a,Bool.false_or,Bool.true_or]
 ·have e:=kw e
  simp only[go_sem,e,d,g]
  refine fin _ _ true ?_ ?_
  ·simp only[go_sem]
  ·simp only[yj,e,Bool.true_or]
def xy:Int->List Xx->Bool
 | _,[]=>false
 | last,t::l=>yj last t || xy t.1 l
theorem Yna(h:List Ob)(x:AV)(i:Nat)(last:Int)(l:List Xx)(G:l.length<9223372036854775808)(C:∀o,SlOf (h.set i o) x 2 (l.map jG))(d:h[i]? =some (.box 3 [i64 last])):
  ACalls Tryz.prog 216 [x,.fn (.func 147) [] [.ptr i 0]] h λr h'=>∃n m,r=i64 n/\h'=h.set i (.box 3 [i64 m])/\decide (n≥0)=xy last l:=by
 have a:h.set i (.box 3 [i64 last])=h:=by
  apply qD
  intro j
  by_cases D:j=i
  ·subst D;rw[zq d,d]
  ·rw[zc (λe=>D e.symm)]
 have s:=C (.box 3 [i64 last])
 rw[a] at s
 refine zl Tryz.f216 [.tmp 4] 19 rfl rfl rfl rfl rfl rfl (by decide) (⟨_,_,⟨if xy last l then 0 else -1,last,rfl,rfl,by split<;>simp_all⟩,qH d rfl⟩) λB=>?_
 simp only[go_sem,s.rows,zb]
 refine zO (by decide) (λn T h'=>∃(k:Nat) (f:Int),h'=h.set i (.box 3 [i64 f])/\T 0=x/\T 1= .fn (.func 147) [] [.ptr i 0]/\T 7=i64 l.length/\T 8=i64 k/\k<=l.length/\xy last l=xy f (l.drop k)/\n=l.length - k) l.length
  ⟨0,last,a.symm,by simp only[go_sem],by simp only[go_sem],by simp only[go_sem],by(simp only[go_sem]<;>rfl),by omega,rfl,rfl⟩ ?_
 rintro n T h' ⟨k,f,rfl,t0,t1,z,t8,F,h0,rfl⟩
 have u:=zq (b:=Ob.box 3 [i64 f]) d
 have q:∀o,(h.set i (.box 3 [i64 f])).set i o=h.set i o:=λo=>qh ..
 have p:=C (.box 3 [i64 f])
 simp only[go_sem,z,t8]
 refine ways (λw=>?_) (λw=>?_)
 ·have c:k<l.length:=by simpa using w
  have y:=p.at (i:=k) (by simpa using c)
  have g:(l.map jG)[k]? =some (jG l[k]):=by simp[c]
  have v:(k:Int)<l.length:=by omega
  have t:=c82 (h.set i (.box 3 [i64 f])) i f l[k] u
  rw[q] at t
  simp only[jG] at g t
  rw[qp c] at h0
  simp only[go_sem,y,p.rows,g,v,t0,t1,z,t8,Int.toNat_natCast,zg,zb]
  refine zi t ?_
  rintro _ H ⟨rfl,E⟩
  subst E
  simp only[go_sem]
  refine ways (λA=>?_) (λA=>?_)
  ·simp only[go_sem,t8]
   exact⟨i64 k,by simp only[go_sem],.inl ⟨k,l[k].1,rfl,rfl,by rw[h0];simp[xy,A]⟩⟩
  ·simp only[go_sem,t8,xS (show k<9223372036854775807 by omega)]
   refine⟨l.length - (k+1),by omega,k+1,l[k].1,rfl,t0,t1,z,rfl,by omega,?_,rfl⟩
   rw[h0];simp[xy,A]
 ·have c:k=l.length:=by
   have:¬ (k:Int)<l.length:=by simpa using w
   omega
  rw[c,List.drop_length] at h0
  simp only[go_sem]
  exact⟨i64 (-1),by simp only[go_sem],.inl ⟨-1,f,rfl,rfl,by rw[h0];rfl⟩⟩
theorem c83(h:List Ob)(x:AV)(i:Nat)(last:Int)(l:List Xx)(f:l.length<9223372036854775808)(g:∀o,SlOf (h.set i o) x 2 (l.map jG))(b:h[i]? =some (.box 3 [i64 last])):
  ACalls Tryz.prog 148 [x,.fn (.func 147) [] [.ptr i 0]] h λr h'=>r=bl (xy last l)/\∃a,h'=h.set i (.box 3 [i64 a]):=by
 refine zl Tryz.f148 [.tmp 4] 9 rfl rfl rfl rfl rfl rfl (by decide) (⟨_,_,⟨rfl,last,rfl⟩,qH b rfl⟩) λB=>?_
 simp only[go_sem]
 refine zi (Yna h x i last l f g b) ?_
 rintro _ j ⟨n,e,rfl,c,d⟩
 subst c
 simp only[go_sem,d]
 exact⟨bl (xy last l),by simp only[go_sem],.inl ⟨rfl,e,rfl⟩⟩
def wH(s:Setup):Bool:=decide ((s.rates.length:Int)>0) && decide ((s.rates.length:Int)<=16) && Zu 0 100000 s.rates && Zu 0 100000 [s.diff,s.least] && decide ((s.tiers.length:Int)<=8) && !xy (-1) s.tiers
theorem c50(h:List Ob)(s:Setup)(a:SA)(k:SIn h s a)(f:SFit s):ACalls Tryz.prog 67 [jm s a] h λr h'=>r=bl (wH s)/\h'=h:=by
 refine zl Tryz.f67 [.tmp 2] 42 rfl rfl rfl rfl rfl rfl (by decide) (⟨_,_,⟨rfl,rfl⟩,.refl⟩) λB=>?_
 simp only[go_sem,k.w.one,k.e.one,k.c.one,k.g.one,k.r.one,k.t.one,(k.app _).r.rows,zb]
 refine ways (λb=>?_) (λb=>?_)
 ·have b:=xq b
  simp only[go_sem,b,(k.app _).r.rows,(k.app _).t.rows,zb]
  refine ways (λd=>?_) (λd=>?_)
  ·have d:=xq d
   simp only[go_sem,b,d,(k.app _).r.rows,(k.app _).t.rows,zb]
   refine zi (c77 _ a.r 0 100000 s.rates f.nr (k.app _).r) ?_
   rintro _ n ⟨rfl,m⟩
   subst m
   simp only[go_sem,b,d,(k.app _).r.rows,(k.app _).t.rows,zb]
   refine ways (λi=>?_) (λi=>?_)
   ·have i:=xq i
    simp only[go_sem,b,d,i,(k.app _).r.rows,(k.app _).t.rows,zb]
    refine zi (c77 _ _ 0 100000 [s.diff,s.least] (by simp) ⟨by simp only[go_sem,qI],λ_=>by simp only[go_sem,qI]⟩) ?_
    rintro _ n ⟨rfl,m⟩
    subst m
    simp only[go_sem,b,d,i,(k.app _).r.rows,(k.app _).t.rows,zb]
    refine ways (λj=>?_) (λj=>?_)
    ·have j:=xq j
     simp only[go_sem,b,d,i,j,(k.app _).r.rows,(k.app _).t.rows,zb]
     refine ways (λl=>?_) (λl=>?_)
     ·have l:=xq l
      simp only[go_sem,b,d,i,j,l,(k.app _).r.rows,(k.app _).t.rows,zb]
      refine zi (c83 _ a.t _ (-1) s.tiers f.nt (λo=>by simp only[go_sem];exact(k.app _).t) (by simp only[go_sem])) ?_
      rintro _ n ⟨rfl,p,m⟩
      subst m
      simp only[go_sem,b,d,i,j,l,(k.app _).r.rows,(k.app _).t.rows,zb]
      refine zk ?_<;>(simp only[go_sem,wH,b,d,i,j,l,(k.app _).r.rows,(k.app _).t.rows,zb]<;>try rfl)
     ·have l:=xo l
      simp only[go_sem,b,d,i,j,l]
      refine zk ?_<;>(simp only[go_sem,wH,b,d,i,j,l]<;>try rfl)
    ·have j:=xo j
     simp only[go_sem,b,d,i,j]
     refine zk ?_<;>(simp only[go_sem,wH,b,d,i,j]<;>try rfl)
   ·have i:=xo i
    simp only[go_sem,b,d,i]
    refine zk ?_<;>(simp only[go_sem,wH,b,d,i]<;>try rfl)
  ·have d:=xo d
   simp only[go_sem,b,d]
   refine zk ?_<;>(simp only[go_sem,wH,b,d]<;>try rfl)
 ·have b:=xo b
  simp only[go_sem,b]
  refine zk ?_<;>(simp only[go_sem,wH,b]<;>try rfl)
def qo(s:Setup):Bool:=yG s && yH s && vY s && wH s
theorem c16(h:List Ob)(s:Setup)(a:SA)(k:SIn h s a)(f:SFit s):ACalls Tryz.prog 20 [jm s a] h λr h'=>r=bl (qo s)/\h'=h:=by
 refine zl Tryz.f20 [.tmp 2] 17 rfl rfl rfl rfl rfl rfl (by decide) (⟨_,_,⟨rfl,rfl⟩,.refl⟩) λB=>?_
 simp only[go_sem,k.w.one,k.e.one,k.c.one,k.g.one,k.r.one,k.t.one]
 refine zi (c47 _ s a (k.app _) f) ?_
 rintro _ l ⟨rfl,j⟩
 subst j
 simp only[go_sem]
 refine ways (λb=>?_) (λb=>?_)
 ·have b:=xq b
  simp only[go_sem,b]
  refine zi (c48 _ s a (k.app _) f) ?_
  rintro _ l ⟨rfl,j⟩
  subst j
  simp only[go_sem,b]
  refine ways (λd=>?_) (λd=>?_)
  ·have d:=xq d
   simp only[go_sem,b,d]
   refine zi (c49 _ s a (k.app _) f) ?_
   rintro _ l ⟨rfl,j⟩
   subst j
   simp only[go_sem,b,d]
   refine ways (λi=>?_) (λi=>?_)
   ·have i:=xq i
    simp only[go_sem,b,d,i]
    refine zi (c50 _ s a (k.app _) f) ?_
    rintro _ l ⟨rfl,j⟩
    subst j
    simp only[go_sem,b,d,i]
    refine zk ?_<;>(simp only[go_sem,qo,b,d,i]<;>try rfl)
   ·have i:=xo i
    simp only[go_sem,b,d,i]
    refine zk ?_<;>(simp only[go_sem,qo,b,d,i]<;>try rfl)
  ·have d:=xo d
   simp only[go_sem,b,d]
   refine zk ?_<;>(simp only[go_sem,qo,b,d]<;>try rfl)
 ·have b:=xo b
  simp only[go_sem,b]
  refine zk ?_<;>(simp only[go_sem,qo,b]<;>try rfl)
attribute [go_sem] Q4a Q5a XAa XEa Xta XFa VSa
structure Ev where
 id:Int
 worker:Int
 at_:Int
 kind:Int
 from_:Int
 to_:Int
 element:Int
 units:Int
 class_:Int
 gear:Int
 code:Int
abbrev evC(e:Ev):List AV:=[i64 e.id,i64 e.worker,i64 e.at_,i64 e.kind,i64 e.from_,i64 e.to_,i64 e.element,i64 e.units,i64 e.class_,i64 e.gear,i64 e.code]
abbrev evV(e:Ev):AV:= .ag (evC e)
def vk(i:Nat)(k:Int):List (List AV):=if k=3 then [[.ptr i 4],[.ptr i 5],[.ptr i 6],[.ptr i 7],[.ptr i 8],[.ptr i 9]] else if k=4 then [[.ptr i 10]] else []
def X8(k:Int):Bool:=1==k || (2==k || (3==k || (4==k || (5==k || (6==k || 7==k)))))
theorem c71(h:List Ob)(i:Nat)(e:Ev)(hi:h[i]? =some (.box 75 (evC e))):
  ACalls Tryz.prog 180 [.ptr i 0] h λr h'=>∃L x,h'=h++L/\r= .tup [x,bl (X8 e.kind)]/\∀a:List Ob,a.length=h.length->SlOf (a++L) x 1 (vk i e.kind):=by
 have b:∀M,(h++M)[i]? =some (.box 75 (evC e)):=λM=>zf hi
 refine zl Tryz.f180 [.tmp 2,.tmp 3] 43 rfl rfl rfl rfl rfl rfl (by decide) (⟨_,h,⟨[],.sl 1 _,by simp,rfl,λ_ _=>⟨rfl,λ_=>rfl⟩⟩,.refl⟩) λB=>?_
 simp only[go_sem,hi]
 refine zV rfl [.res,.res,.res] 3 [(6,0,[]),(7,0,[]),(8,0,[]),(9,0,[]),(10,0,[]),(11,0,[]),(12,0,[]),(13,0,[]),(14,0,[]),(15,0,[]),(16,0,[]),(17,0,[]),(18,0,[]),(19,0,[]),(20,0,[]),(21,0,[]),(22,0,[]),(23,0,[]),(26,0,[]),(27,0,[]),(28,0,[]),(0,0,[]),(1,0,[]),(2,0,[]),(3,0,[]),(4,0,[]),(5,0,[]),(24,1,[]),(25,0,[]),(29,2,[]),(30,0,[]),(31,0,[]),(32,0,[])] rfl (by decide) (by decide) ?_
 simp only[go_sem,b]
 refine⟨.tup [if 1=e.kind then AV.v (Value.slice none 0 0) else if 2=e.kind then AV.v (Value.slice none 0 0) else if 3=e.kind then AV.tl (h.length+1) 0 else if 4=e.kind then AV.tl (h.length+2) 0 else if 5=e.kind then AV.v (Value.slice none 0 0) else if 6=e.kind then AV.v (Value.slice none 0 0) else if 7=e.kind then AV.v (Value.slice none 0 0) else AV.v (Value.slice none 0 0),bl (X8 e.kind)],by simp only[go_sem,X8]<;>rfl,.inl ⟨_,_,rfl,rfl,λa c=>?_⟩⟩
 rw[<-c]
 by_cases k1:e.kind=3
 ·rw[vk,if_pos k1,k1]
  exact⟨by simp only[go_sem],λ_=>by simp only[go_sem]⟩
 ·by_cases k2:e.kind=4
  ·rw[vk,if_neg k1,if_pos k2,k2]
   exact⟨by simp only[go_sem],λ_=>by simp only[go_sem]⟩
  ·rw[vk,if_neg k1,if_neg k2]
   have a1:¬ 3=e.kind:=λh=>k1 h.symm
   have a2:¬ 4=e.kind:=λh=>k2 h.symm
   simp only[if_neg a1,if_neg a2,ite_self]
   exact⟨rfl,λh=>absurd rfl h⟩
def ZS(n a:Int):Bool:=decide (n≥0) && decide (n<=a)
theorem c72(n a:Int):xv Tryz.prog 181 [i64 n,i64 a] (bl (ZS n a)):=λh=>by
 refine zl Tryz.f181 [.tmp 4] 12 rfl rfl rfl rfl rfl rfl (by decide) (⟨_,_,⟨rfl,rfl⟩,.refl⟩) λB=>?_
 simp only[go_sem]
 refine ways (λe=>?_) (λe=>?_)
 ·have e:=xq e
  simp only[go_sem,e]
  refine zk ?_<;>(simp only[go_sem,ZS,e]<;>try rfl)
 ·have e:=xo e
  simp only[go_sem,e]
  refine zk ?_<;>(simp only[go_sem,ZS,e]<;>try rfl)
theorem VUa(n:Int):xv Tryz.prog 195 [i64 n] (bl false):=λh=>by
 refine zl Tryz.f195 [.tmp 2] 6 rfl rfl rfl rfl rfl rfl (by decide) (⟨_,_,⟨rfl,rfl⟩,.refl⟩) λB=>?_
 simp only[go_sem]
 refine zk ?_<;>(simp only[go_sem,bne_self_eq_false]<;>try rfl)
def zSa(a b:Int):Int:=if a<b then -1 else if a>b then 1 else 0
theorem c95(a b:Int):xv Tryz.prog 122 [i64 a,i64 b] (i64 (zSa a b)):=λh=>by
 refine zl Tryz.f122 [.tmp 4] 20 rfl rfl rfl rfl rfl rfl (by decide) (⟨_,_,⟨rfl,rfl⟩,.refl⟩) λB=>?_
 simp only[go_sem]
 refine zi (VUa a _) ?_
 rintro _ _ ⟨rfl,rfl⟩
 simp only[go_sem]
 refine zi (VUa b _) ?_
 rintro _ _ ⟨rfl,rfl⟩
 simp only[go_sem]
 refine ways (λe=>?_) (λe=>?_)
 ·simp only[go_sem]
  refine zk ?_<;>(simp only[go_sem,zSa,of_decide_eq_true e]<;>try rfl)
 ·simp only[go_sem]
  refine ways (λc=>?_) (λc=>?_)
  ·simp only[go_sem]
   refine zk ?_<;>(simp only[go_sem,zSa,of_decide_eq_false e,of_decide_eq_true c]<;>try rfl)
  ·simp only[go_sem]
   refine zk ?_<;>(simp only[go_sem,zSa,of_decide_eq_false e,of_decide_eq_false c]<;>try rfl)
def orI:List Int->Int
 | []=>0
 | n::l=>if n≠0 then n else orI l
theorem Yoa(h:List Ob)(x:AV)(a b:Int)(c:SlOf h x 1 [[i64 a],[i64 b]]):ACalls Tryz.prog 176 [x] h λr h'=>r=i64 (orI [a,b])/\h'=h:=by
 have j:=c.at (i:=0) (by simp)
 refine zl Tryz.f176 [.tmp 2] 18 rfl rfl rfl rfl rfl rfl (by decide) (⟨_,_,⟨rfl,rfl⟩,.refl⟩) λB=>?_
 simp only[go_sem,c.rows]
 refine wy 3 (j7 (by decide) ?_)
 simp only[go_sem,c.rows,j]
 refine ways (λe=>?_) (λe=>?_)
 ·simp only[go_sem]
  have d:¬ a=0:=by simpa using e
  refine zk ?_<;>(simp only[go_sem,orI,d,ne_eq,not_false_eq_true]<;>try rfl)
 ·have d:a=0:=by simpa using e
  simp only[go_sem]
  refine j7 (by decide) ?_
  simp only[go_sem,c.rows,j]
  refine ways (λf=>?_) (λf=>?_)
  ·simp only[go_sem]
   have g:¬ b=0:=by simpa using f
   refine zk ?_<;>(simp only[go_sem,orI,d,g,ne_eq,not_false_eq_true,not_true_eq_false]<;>try rfl)
  ·have g:b=0:=by simpa using f
   simp only[go_sem]
   refine j7 (by decide) ?_
   simp only[go_sem]
   refine zk ?_<;>(simp only[go_sem,orI,d,g,ne_eq,not_false_eq_true,not_true_eq_false]<;>try rfl)
def Q8a(a b:Ev):Int:=orI [zSa a.at_ b.at_,zSa a.id b.id]
theorem c89(a b:Ev):xv Tryz.prog 111 [evV a,evV b] (i64 (Q8a a b)):=λh=>by
 refine zl Tryz.f111 [.tmp 4] 17 rfl rfl rfl rfl rfl rfl (by decide) (⟨_,_,⟨rfl,rfl⟩,.refl⟩) λB=>?_
 simp only[go_sem]
 refine zV rfl [.res] 1 [(0,0,[]),(2,0,[]),(5,0,[]),(7,0,[]),(1,0,[]),(3,0,[]),(6,0,[]),(8,0,[]),(4,0,[6,8]),(9,0,[]),(10,0,[]),(11,0,[]),(12,0,[])] rfl (by decide) (by decide) ?_
 simp only[go_sem]
 refine zi (c95 a.at_ b.at_ _) ?_
 rintro _ d ⟨rfl,c⟩
 subst c
 simp only[go_sem]
 refine zi (c95 a.id b.id _) ?_
 rintro _ d ⟨rfl,c⟩
 subst c
 simp only[go_sem]
 refine zi (Yoa _ _ (zSa a.at_ b.at_) (zSa a.id b.id) ⟨by simp only[go_sem],λ_=>by simp only[go_sem]⟩) ?_
 rintro _ d ⟨rfl,c⟩
 subst c
 simp only[go_sem]
 refine zk ?_<;>(simp only[go_sem,Q8a]<;>try rfl)
