import Derived.Test.YtigdlmpjijhpaaaGreatKA
import Derived.Test.YtigdlmpjijhpaaaGreatK12
set_option linter.all false
namespace Go.Proofs.YtigdlmpjijhpaaaGreat.Ax
open Go Go.Proofs
set_option maxRecDepth 100000
attribute [go_sem] qfb
def VH:List AV->Int
 | [.v (.int _ n)]=>n
 | _=>0
def qz(n:Int):List AV:=[i64 n]
def qfa(lo hi n:Int):Bool:=decide (n<lo) || decide (n>hi)
def Qx(lo hi:Int)(l:List Int):Bool:= !l.any (qfa lo hi)
theorem c99(h:List Ob)(i j:Nat)(lo hi n:Int)(a:h[i]? =some (.box 3 [i64 lo]))(b:h[j]? =some (.box 3 [i64 hi])):
  ACalls Tryz.prog 211 [i64 n,.ptr i 0,.ptr j 0] h λr h'=>r=bl (qfa lo hi n)/\h'=h:=by
 refine zj Tryz.f211 [.tmp 4] 13 rfl rfl rfl rfl rfl rfl (by decide) (⟨_,_,⟨rfl,rfl⟩,.refl⟩) λB=>?_
 simp only[go_sem,a]
 refine ways (λe=>?_) (λe=>?_)
 ·have e:=vp e
  simp only[go_sem,e,a,b]
  refine zn ?_<;>(simp only[go_sem,qfa,e]<;>try rfl)
 ·have e:=vo e
  simp only[go_sem,e,a,b]
  refine zn ?_<;>(simp only[go_sem,qfa,e]<;>try rfl)
theorem c77(h:List Ob)(x:AV)(lo hi:Int)(l:List Int)(c:l.length<9223372036854775808)(b:SlOf h x 1 (l.map qz)):
  ACalls Tryz.prog 142 [i64 lo,i64 hi,x] h λr h'=>r=bl (Qx lo hi l)/\h'=h:=by
 refine zj Tryz.f142 [.tmp 6] 11 rfl rfl rfl rfl rfl rfl (by decide) (⟨_,_,⟨rfl,rfl⟩,.refl⟩) λB=>?_
 simp only[go_sem]
 refine zh (c98 _ x 211 _ (l.map qz) (λr=>qfa lo hi (VH r)) (by simpa using c) (by simp[qz]) (b.app _) ?_) ?_
 ·intro row a L
  obtain⟨n,_,rfl⟩:=zt.1 a
  refine c99 _ _ _ lo hi n ?_ ?_
  all_goals simp only[go_sem]
 ·rintro _ e ⟨rfl,d⟩
  subst d
  simp only[go_sem]
  refine zn ?_<;>(simp only[go_sem,Qx,List.any_map,Function.comp_def,qz,VH]<;>try rfl)
def KZ(p:qw):Bool:=decide (p.1<0) || !rok p
theorem xMb(p:qw)(a:jq p):xy Tryz.prog 214 [rat p] (bl (KZ p)):=λh=>by
 refine zj Tryz.f214 [.tmp 2] 11 rfl rfl rfl rfl rfl rfl (by decide) (⟨_,_,⟨rfl,rfl⟩,.refl⟩) λB=>?_
 simp only[go_sem]
 refine ways (λe=>?_) (λe=>?_)
 ·have e:=vp e
  simp only[go_sem,e]
  refine zh (c27 p a.1 a.2 _) ?_
  rintro _ c ⟨rfl,b⟩
  subst b
  simp only[go_sem,e]
  refine zn ?_<;>(simp only[go_sem,KZ,e]<;>try rfl)
 ·have e:=vo e
  simp only[go_sem,e]
  refine zn ?_<;>(simp only[go_sem,KZ,e]<;>try rfl)
def Xea:List AV->qw
 | [.v (.int _ n),.v (.int _ d)]=>(n,d)
 | _=>(0,0)
def Xv(l:List qw):Bool:= !l.any KZ
theorem c80(h:List Ob)(x:AV)(l:List qw)(f:∀p∈l,jq p)(c:l.length<9223372036854775808)(b:SlOf h x 2 (l.map jS)):
  ACalls Tryz.prog 145 [x] h λr h'=>r=bl (Xv l)/\h'=h:=by
 refine zj Tryz.f145 [.tmp 2] 6 rfl rfl rfl rfl rfl rfl (by decide) (⟨_,_,⟨rfl,rfl⟩,.refl⟩) λB=>?_
 simp only[go_sem]
 refine zh (xJb _ x 214 _ (l.map jS) (λr=>KZ (Xea r)) (by simpa using c) (λr e=>by obtain⟨p,_,rfl⟩:=zt.1 e;rfl) b ?_) ?_
 ·intro row a L
  obtain⟨p,g,rfl⟩:=zt.1 a
  exact xMb p (f p g) _
 ·rintro _ i ⟨rfl,d⟩
  subst d
  simp only[go_sem]
  refine zn ?_<;>(simp only[go_sem,Xv,List.any_map,Function.comp_def,jS,Xea]<;>try rfl)
abbrev Way:=Int × Int × Int
def Kg(w:Way):List AV:=[i64 w.1,i64 w.2.1,i64 w.2.2]
def Xfa:List AV->Way
 | [.v (.int _ a),.v (.int _ b),.v (.int _ m)]=>(a,b,m)
 | _=>(0,0,0)
abbrev Elt:=qw × qw
def XM(e:Elt):List AV:=[i64 e.1.1,i64 e.1.2,i64 e.2.1,i64 e.2.2]
def v6a:List AV->Elt
 | [.v (.int _ a),.v (.int _ b),.v (.int _ c),.v (.int _ d)]=>((a,b),(c,d))
 | _=>((0,0),(0,0))
abbrev K1:=Int × Int
structure Setup where
 places:Int
 ways:List Way
 pace:qw
 elements:List Elt
 classes:List qw
 gears:List qw
 allow:Int
 unit:Int
 cap:Int
 paidBreak:Int
 autoAfter:Int
 autoBreak:Int
 dayReg:Int
 dayOver:Int
 weekReg:Int
 nightFrom:Int
 nightTo:Int
 rates:List Int
 diff:Int
 least:Int
 fault:Int
 tiers:List K1
structure SA where
 w:AV
 e:AV
 c:AV
 g:AV
 r:AV
 t:AV
abbrev qg(s:Setup)(a:SA):List AV:=[i64 s.places,a.w,i64 s.pace.1,i64 s.pace.2,a.e,a.c,a.g,i64 s.allow,i64 s.unit,i64 s.cap,i64 s.paidBreak,i64 s.autoAfter,i64 s.autoBreak,
 i64 s.dayReg,i64 s.dayOver,i64 s.weekReg,i64 s.nightFrom,i64 s.nightTo,a.r,i64 s.diff,i64 s.least,i64 s.fault,a.t]
abbrev jg(s:Setup)(a:SA):AV:= .ag (qg s a)
structure SIn (h:List Ob) (s:Setup) (a:SA):Prop where
 w:SlOf h a.w 3 (s.ways.map Kg)
 e:SlOf h a.e 4 (s.elements.map XM)
 c:SlOf h a.c 2 (s.classes.map jS)
 g:SlOf h a.g 2 (s.gears.map jS)
 r:SlOf h a.r 1 (s.rates.map qz)
 t:SlOf h a.t 2 (s.tiers.map jS)
theorem SIn.app{h:List Ob}{s:Setup}{a:SA}(k:SIn h s a)(L:List Ob):SIn (h++L) s a:=⟨k.w.app L,k.e.app L,k.c.app L,k.g.app L,k.r.app L,k.t.app L⟩
structure SFit (s:Setup):Prop where
 places:Fit s.places
 pace:jq s.pace
 elements:∀e∈s.elements,jq e.1/\jq e.2
 classes:∀p∈s.classes,jq p
 gears:∀p∈s.gears,jq p
 tiers:∀t∈s.tiers,jq t
 nw:s.ways.length<9223372036854775808
 ne:s.elements.length<9223372036854775808
 nc:s.classes.length<9223372036854775808
 ng:s.gears.length<9223372036854775808
 nr:s.rates.length<9223372036854775808
 nt:s.tiers.length<9223372036854775808
def JW(places:Int)(w:Way):Bool:= !Qx 0 (wr (places - 1)) [w.1,w.2.1] || w.1==w.2.1 || !Qx 1 10000 [w.2.2]
theorem c76(h:List Ob)(i:Nat)(s:Setup)(a:SA)(w:Way)(c:h[i]? =some (.box 30 (qg s a))):
  ACalls Tryz.prog 141 [.ag (Kg w),.ptr i 0] h λr h'=>r=bl (JW s.places w)/\h'=h:=by
 refine zj Tryz.f141 [.tmp 3] 28 rfl rfl rfl rfl rfl rfl (by decide) (⟨_,_,⟨rfl,rfl⟩,.refl⟩) λB=>?_
 simp only[go_sem,c,Kg]
 have f:∀M,(h++M)[i]? =some (.box 30 (qg s a)):=λM=>ze c
 simp only[go_sem,f]
 refine zh (c77 _ _ 0 _ [w.1,w.2.1] (by simp) ⟨by simp only[go_sem,qz],λ_=>by simp only[go_sem,qz]⟩) ?_
 rintro _ g ⟨rfl,d⟩
 subst d
 simp only[go_sem]
 refine ways (λe=>?_) (λe=>?_)
 ·have e:=vp e
  simp only[go_sem,e]
  refine ways (λb=>?_) (λb=>?_)
  ·have b:=vp b
   simp only[go_sem,e,b]
   refine zh (c77 _ _ 1 10000 [w.2.2] (by simp) ⟨by simp only[go_sem,qz],λ_=>by simp only[go_sem,qz]⟩) ?_
   rintro _ g ⟨rfl,d⟩
   subst d
   simp only[go_sem,e,b]
   refine zn ?_<;>(simp only[go_sem,JW,e,b]<;>try rfl)
  ·have b:=vo b
   simp only[go_sem,e,b]
   refine zn ?_<;>(simp only[go_sem,JW,e,b]<;>try rfl)
 ·have e:=vo e
  simp only[go_sem,e]
  refine zn ?_<;>(simp only[go_sem,JW,e]<;>try rfl)
def yS(s:Setup):Bool:=Qx 1 16 [s.places] && decide ((s.ways.length:Int)<=64) && !s.ways.any (JW s.places)
theorem c47(h:List Ob)(s:Setup)(a:SA)(k:SIn h s a)(f:SFit s):ACalls Tryz.prog 64 [jg s a] h λr h'=>r=bl (yS s)/\h'=h:=by
 refine zj Tryz.f64 [.tmp 2] 22 rfl rfl rfl rfl rfl rfl (by decide) (⟨_,_,⟨rfl,rfl⟩,.refl⟩) λB=>?_
 simp only[go_sem,k.w.one,k.e.one,k.c.one,k.g.one,k.r.one,k.t.one]
 refine zh (c77 _ _ 1 16 [s.places] (by simp) ⟨by simp only[go_sem,qz],λ_=>by simp only[go_sem,qz]⟩) ?_
 rintro _ l ⟨rfl,i⟩
 subst i
 simp only[go_sem]
 refine ways (λe=>?_) (λe=>?_)
 ·have e:=xO e
  simp only[go_sem,e,(k.app _).w.rows,zb]
  refine ways (λb=>?_) (λb=>?_)
  ·have b:=xO b
   simp only[go_sem,e,b]
   refine zh (c78 _ a.w 141 _ (s.ways.map Kg) (λr=>JW s.places (Xfa r)) (by simpa using f.nw) (λr j=>by obtain⟨p,_,rfl⟩:=zt.1 j;rfl) (k.app _).w ?_) ?_
   ·intro row d L
    obtain⟨p,m,rfl⟩:=zt.1 d
    refine c76 _ _ s a p ?_
    simp only[go_sem]
   ·rintro _ l ⟨rfl,i⟩
    subst i
    simp only[go_sem]
    refine zn ?_<;>(simp only[go_sem,yS,e,b,List.any_map,Function.comp_def,Kg,Xfa]<;>try rfl)
  ·have b:=xN b
   simp only[go_sem,e,b]
   refine zn ?_<;>(simp only[go_sem,yS,e,b]<;>try rfl)
 ·have e:=xN e
  simp only[go_sem,e]
  refine zn ?_<;>(simp only[go_sem,yS,e]<;>try rfl)
def VI(e:Elt):Bool:= !Xv [e.1,e.2]
theorem c79(e:Elt)(b:jq e.1/\jq e.2):xy Tryz.prog 144 [.ag (XM e)] (bl (VI e)):=λh=>by
 refine zj Tryz.f144 [.tmp 2] 10 rfl rfl rfl rfl rfl rfl (by decide) (⟨_,_,⟨rfl,rfl⟩,.refl⟩) λB=>?_
 simp only[go_sem,XM]
 refine zh (c80 _ _ [e.1,e.2] (by simpa using b) (by simp) ⟨by simp only[go_sem,jS],λ_=>by simp only[go_sem,jS]⟩) ?_
 rintro _ c ⟨rfl,a⟩
 subst a
 simp only[go_sem]
 refine zn ?_<;>(simp only[go_sem,VI]<;>try rfl)
def VAa(a b c:Int):Int:=if c>(if b>a then b else a) then c else(if b>a then b else a)
def yT(s:Setup):Bool:=Xv [s.pace] && Xv s.classes && Xv s.gears && !s.elements.any VI && decide (VAa s.elements.length s.classes.length s.gears.length<=8)
theorem c48(h:List Ob)(s:Setup)(a:SA)(k:SIn h s a)(f:SFit s):ACalls Tryz.prog 65 [jg s a] h λr h'=>r=bl (yT s)/\h'=h:=by
 refine zj Tryz.f65 [.tmp 2] 38 rfl rfl rfl rfl rfl rfl (by decide) (⟨_,_,⟨rfl,rfl⟩,.refl⟩) λB=>?_
 simp only[go_sem,k.w.one,k.e.one,k.c.one,k.g.one,k.r.one,k.t.one]
 refine zh (c80 _ _ [s.pace] (by simpa using f.pace) (by simp) ⟨by simp only[go_sem,jS],λ_=>by simp only[go_sem,jS]⟩) ?_
 rintro _ n ⟨rfl,j⟩
 subst j
 simp only[go_sem]
 refine ways (λe=>?_) (λe=>?_)
 ·have e:=xO e
  simp only[go_sem,e]
  refine zh (c80 _ a.c s.classes f.classes f.nc (k.app _).c) ?_
  rintro _ n ⟨rfl,j⟩
  subst j
  simp only[go_sem,e]
  refine ways (λb=>?_) (λb=>?_)
  ·have b:=xO b
   simp only[go_sem,e,b]
   refine zh (c80 _ a.g s.gears f.gears f.ng (k.app _).g) ?_
   rintro _ n ⟨rfl,j⟩
   subst j
   simp only[go_sem,e,b]
   refine ways (λd=>?_) (λd=>?_)
   ·have d:=xO d
    simp only[go_sem,e,b,d]
    refine zh (c81 _ a.e 144 _ (s.elements.map XM) (λr=>VI (v6a r)) (by simpa using f.ne) (λr o=>by obtain⟨p,_,rfl⟩:=zt.1 o;rfl) (k.app _).e ?_) ?_
    ·intro row m L
     obtain⟨p,q,rfl⟩:=zt.1 m
     exact c79 p (f.elements p q) _
    ·rintro _ n ⟨rfl,j⟩
     subst j
     have l:(s.elements.map XM).any (λr=>VI (v6a r))=s.elements.any VI:=by simp only[List.any_map,Function.comp_def,XM,v6a]
     simp only[go_sem,l,e,b,d]
     refine ways (λi=>?_) (λi=>?_)
     ·have i:=xO i
      simp only[go_sem,e,b,d,i,(k.app _).e.rows,(k.app _).c.rows,(k.app _).g.rows,zb]
      refine zn ?_<;>(simp only[go_sem,yT,e,b,d,i,VAa]<;>try rfl)
     ·have i:=xN i
      simp only[go_sem,e,b,d,i]
      refine zn ?_<;>(simp only[go_sem,yT,e,b,d,i]<;>try rfl)
   ·have d:=xN d
    simp only[go_sem,e,b,d]
    refine zn ?_<;>(simp only[go_sem,yT,e,b,d]<;>try rfl)
  ·have b:=xN b
   simp only[go_sem,e,b]
   refine zn ?_<;>(simp only[go_sem,yT,e,b]<;>try rfl)
 ·have e:=xN e
  simp only[go_sem,e]
  refine zn ?_<;>(simp only[go_sem,yT,e]<;>try rfl)
def wY(s:Setup):Bool:=Qx 0 100 [s.allow] && Qx 1 3600 [s.unit] && Qx 60 57600 [s.cap] && Qx 0 86400 [s.paidBreak,s.autoAfter,s.autoBreak,s.nightFrom,s.nightTo,s.fault,s.dayOver] && Qx 0 s.dayOver [s.dayReg] && Qx 0 604800 [s.weekReg]
theorem c49(h:List Ob)(s:Setup)(a:SA)(k:SIn h s a)(f:SFit s):ACalls Tryz.prog 66 [jg s a] h λr h'=>r=bl (wY s)/\h'=h:=by
 refine zj Tryz.f66 [.tmp 2] 51 rfl rfl rfl rfl rfl rfl (by decide) (⟨_,_,⟨rfl,rfl⟩,.refl⟩) λB=>?_
 simp only[go_sem,k.w.one,k.e.one,k.c.one,k.g.one,k.r.one,k.t.one]
 refine zh (c77 _ _ 0 100 [s.allow] (by simp) ⟨by simp only[go_sem,qz],λ_=>by simp only[go_sem,qz]⟩) ?_
 rintro _ n ⟨rfl,l⟩
 subst l
 simp only[go_sem]
 refine ways (λb=>?_) (λb=>?_)
 ·have b:=xO b
  simp only[go_sem,b]
  refine zh (c77 _ _ 1 3600 [s.unit] (by simp) ⟨by simp only[go_sem,qz],λ_=>by simp only[go_sem,qz]⟩) ?_
  rintro _ n ⟨rfl,l⟩
  subst l
  simp only[go_sem,b]
  refine ways (λd=>?_) (λd=>?_)
  ·have d:=xO d
   simp only[go_sem,b,d]
   refine zh (c77 _ _ 60 57600 [s.cap] (by simp) ⟨by simp only[go_sem,qz],λ_=>by simp only[go_sem,qz]⟩) ?_
   rintro _ n ⟨rfl,l⟩
   subst l
   simp only[go_sem,b,d]
   refine ways (λi=>?_) (λi=>?_)
   ·have i:=xO i
    simp only[go_sem,b,d,i]
    refine zh (c77 _ _ 0 86400 [s.paidBreak,s.autoAfter,s.autoBreak,s.nightFrom,s.nightTo,s.fault,s.dayOver] (by simp) ⟨by simp only[go_sem,qz],λ_=>by simp only[go_sem,qz]⟩) ?_
    rintro _ n ⟨rfl,l⟩
    subst l
    simp only[go_sem,b,d,i]
    refine ways (λj=>?_) (λj=>?_)
    ·have j:=xO j
     simp only[go_sem,b,d,i,j]
     refine zh (c77 _ _ 0 _ [s.dayReg] (by simp) ⟨by simp only[go_sem,qz],λ_=>by simp only[go_sem,qz]⟩) ?_
     rintro _ n ⟨rfl,l⟩
     subst l
     simp only[go_sem,b,d,i,j]
     refine ways (λm=>?_) (λm=>?_)
     ·have m:=xO m
      simp only[go_sem,b,d,i,j,m]
      refine zh (c77 _ _ 0 604800 [s.weekReg] (by simp) ⟨by simp only[go_sem,qz],λ_=>by simp only[go_sem,qz]⟩) ?_
      rintro _ n ⟨rfl,l⟩
      subst l
      simp only[go_sem,b,d,i,j,m]
      refine zn ?_<;>(simp only[go_sem,wY,b,d,i,j,m]<;>try rfl)
     ·have m:=xN m
      simp only[go_sem,b,d,i,j,m]
      refine zn ?_<;>(simp only[go_sem,wY,b,d,i,j,m]<;>try rfl)
    ·have j:=xN j
     simp only[go_sem,b,d,i,j]
     refine zn ?_<;>(simp only[go_sem,wY,b,d,i,j]<;>try rfl)
   ·have i:=xN i
    simp only[go_sem,b,d,i]
    refine zn ?_<;>(simp only[go_sem,wY,b,d,i]<;>try rfl)
  ·have d:=xN d
   simp only[go_sem,b,d]
   refine zn ?_<;>(simp only[go_sem,wY,b,d]<;>try rfl)
 ·have b:=xN b
  simp only[go_sem,b]
  refine zn ?_<;>(simp only[go_sem,wY,b]<;>try rfl)
def Zm(last:Int)(t:K1):Bool:=decide (t.1<=last) || decide (t.1>1000) || !Qx 0 100000 [t.2]
theorem c82(h:List Ob)(i:Nat)(last:Int)(t:K1)(c:h[i]? =some (.box 3 [i64 last])):
  ACalls Tryz.prog 147 [.ag (jS t),.ptr i 0] h λr h'=>r=bl (Zm last t)/\h'=h.set i (.box 3 [i64 t.1]):=by
 have d:∀M,(h++M)[i]? =some (.box 3 [i64 last]):=λM=>ze c
 have f:∀M o,(h++M).set i o=h.set i o++M:=λM o=>jj c
 have fin:∀(T:Env) (M:List Ob) (b:Bool),T 3=bl b->b=Zm last t->vCa Tryz.prog [.tmp 3] h (λr h'=>r=bl (Zm last t)/\h'=h.set i (.box 3 [i64 t.1])) .ret T (h.set i (.box 3 [i64 t.1])++M):=λT M b j g=>
  ⟨bl b,by simp only[go_sem,j],.inr ⟨_,M,rfl,by simp,rfl,KeepLt.refl.set rfl rfl,by rw[g],rfl⟩⟩
 refine zj Tryz.f147 [.tmp 3] 24 rfl rfl rfl rfl rfl rfl (by decide) (⟨_,_,⟨rfl,rfl⟩,qj c rfl⟩) λB=>?_
 simp only[go_sem,c,jS,d]
 refine ways (λe=>?_) (λe=>?_)
 ·have e:=vp e
  simp only[go_sem,e]
  refine ways (λa=>?_) (λa=>?_)
  ·have a:=vp a
   simp only[go_sem,e,a]
   refine zh (c77 _ _ 0 100000 [t.2] (by simp) ⟨by simp only[go_sem,qz],λ_=>by simp only[go_sem,qz]⟩) ?_
   rintro _ k ⟨rfl,g⟩
   subst g
   simp only[go_sem,e,a,d,f]
   refine fin _ _ (!Qx 0 100000 [t.2]) ?_ ?_
   ·simp only[go_sem]
   ·simp only[Zm,e,a,Bool.false_or]
  ·have a:=vo a
   simp only[go_sem,e,a,d,f]
   refine fin _ _ true ?_ ?_
   ·simp only[go_sem]
   ·simp only[Zm,e,a,Bool.false_or,Bool.true_or]
 ·have e:=vo e
  simp only[go_sem,e,d,f]
  refine fin _ _ true ?_ ?_
  ·simp only[go_sem]
  ·simp only[Zm,e,Bool.true_or]
def kn:Int->List K1->Bool
 | _,[]=>false
 | last,t::l=>Zm last t || kn t.1 l
theorem xNb(h:List Ob)(x:AV)(i:Nat)(last:Int)(l:List K1)(G:l.length<9223372036854775808)(C:∀o,SlOf (h.set i o) x 2 (l.map jS))(f:h[i]? =some (.box 3 [i64 last])):
  ACalls Tryz.prog 216 [x,.fn (.func 147) [] [.ptr i 0]] h λr h'=>∃n m,r=i64 n/\h'=h.set i (.box 3 [i64 m])/\decide (n≥0)=kn last l:=by
 have c:h.set i (.box 3 [i64 last])=h:=by
  apply qX
  intro j
  by_cases D:j=i
  ·subst D;rw[zm f,f]
  ·rw[zc (λe=>D e.symm)]
 have s:=C (.box 3 [i64 last])
 rw[c] at s
 refine zj Tryz.f216 [.tmp 4] 19 rfl rfl rfl rfl rfl rfl (by decide) (⟨_,_,⟨if kn last l then 0 else -1,last,rfl,rfl,by split<;>simp_all⟩,qj f rfl⟩) λB=>?_
 simp only[go_sem,s.rows,zb]
 refine zO (by decide) (λn T h'=>∃(k:Nat) (d:Int),h'=h.set i (.box 3 [i64 d])/\T 0=x/\T 1= .fn (.func 147) [] [.ptr i 0]/\T 7=i64 l.length/\T 8=i64 k/\k<=l.length/\kn last l=kn d (l.drop k)/\n=l.length - k) l.length
  ⟨0,last,c.symm,by simp only[go_sem],by simp only[go_sem],by simp only[go_sem],by(simp only[go_sem]<;>rfl),by omega,rfl,rfl⟩ ?_
 rintro n T h' ⟨k,d,rfl,t0,t1,A,t8,H,h0,rfl⟩
 have w:=zm (b:=Ob.box 3 [i64 d]) f
 have q:∀o,(h.set i (.box 3 [i64 d])).set i o=h.set i o:=λo=>qd ..
 have p:=C (.box 3 [i64 d])
 simp only[go_sem,A,t8]
 refine ways (λv=>?_) (λv=>?_)
 ·have a:k<l.length:=by simpa using v
  have z:=p.at (i:=k) (by simpa using a)
  have g:(l.map jS)[k]? =some (jS l[k]):=by simp[a]
  have t:(k:Int)<l.length:=by omega
  have y:=c82 (h.set i (.box 3 [i64 d])) i d l[k] w
  rw[q] at y
  simp only[jS] at g y
  rw[qU a] at h0
  simp only[go_sem,z,p.rows,g,t,t0,t1,A,t8,Int.toNat_natCast,zf,zb]
  refine zh y ?_
  rintro _ F ⟨rfl,E⟩
  subst E
  simp only[go_sem]
  refine ways (λu=>?_) (λu=>?_)
  ·simp only[go_sem,t8]
   exact⟨i64 k,by simp only[go_sem],.inl ⟨k,l[k].1,rfl,rfl,by rw[h0];simp[kn,u]⟩⟩
  ·simp only[go_sem,t8,xE (show k<9223372036854775807 by omega)]
   refine⟨l.length - (k+1),by omega,k+1,l[k].1,rfl,t0,t1,A,rfl,by omega,?_,rfl⟩
   rw[h0];simp[kn,u]
 ·have a:k=l.length:=by
   have:¬ (k:Int)<l.length:=by simpa using v
   omega
  rw[a,List.drop_length] at h0
  simp only[go_sem]
  exact⟨i64 (-1),by simp only[go_sem],.inl ⟨-1,d,rfl,rfl,by rw[h0];rfl⟩⟩
theorem c83(h:List Ob)(x:AV)(i:Nat)(last:Int)(l:List K1)(e:l.length<9223372036854775808)(c:∀o,SlOf (h.set i o) x 2 (l.map jS))(b:h[i]? =some (.box 3 [i64 last])):
  ACalls Tryz.prog 148 [x,.fn (.func 147) [] [.ptr i 0]] h λr h'=>r=bl (kn last l)/\∃a,h'=h.set i (.box 3 [i64 a]):=by
 refine zj Tryz.f148 [.tmp 4] 9 rfl rfl rfl rfl rfl rfl (by decide) (⟨_,_,⟨rfl,last,rfl⟩,qj b rfl⟩) λB=>?_
 simp only[go_sem]
 refine zh (xNb h x i last l e c b) ?_
 rintro _ j ⟨n,d,rfl,f,g⟩
 subst f
 simp only[go_sem,g]
 exact⟨bl (kn last l),by simp only[go_sem],.inl ⟨rfl,d,rfl⟩⟩
def wZ(s:Setup):Bool:=decide ((s.rates.length:Int)>0) && decide ((s.rates.length:Int)<=16) && Qx 0 100000 s.rates && Qx 0 100000 [s.diff,s.least] && decide ((s.tiers.length:Int)<=8) && !kn (-1) s.tiers
theorem c50(h:List Ob)(s:Setup)(a:SA)(k:SIn h s a)(f:SFit s):ACalls Tryz.prog 67 [jg s a] h λr h'=>r=bl (wZ s)/\h'=h:=by
 refine zj Tryz.f67 [.tmp 2] 42 rfl rfl rfl rfl rfl rfl (by decide) (⟨_,_,⟨rfl,rfl⟩,.refl⟩) λB=>?_
 simp only[go_sem,k.w.one,k.e.one,k.c.one,k.g.one,k.r.one,k.t.one,(k.app _).r.rows,zb]
 refine ways (λb=>?_) (λb=>?_)
 ·have b:=xO b
  simp only[go_sem,b,(k.app _).r.rows,(k.app _).t.rows,zb]
  refine ways (λd=>?_) (λd=>?_)
  ·have d:=xO d
   simp only[go_sem,b,d,(k.app _).r.rows,(k.app _).t.rows,zb]
   refine zh (c77 _ a.r 0 100000 s.rates f.nr (k.app _).r) ?_
   rintro _ n ⟨rfl,m⟩
   subst m
   simp only[go_sem,b,d,(k.app _).r.rows,(k.app _).t.rows,zb]
   refine ways (λi=>?_) (λi=>?_)
   ·have i:=xO i
    simp only[go_sem,b,d,i,(k.app _).r.rows,(k.app _).t.rows,zb]
    refine zh (c77 _ _ 0 100000 [s.diff,s.least] (by simp) ⟨by simp only[go_sem,qz],λ_=>by simp only[go_sem,qz]⟩) ?_
    rintro _ n ⟨rfl,m⟩
    subst m
    simp only[go_sem,b,d,i,(k.app _).r.rows,(k.app _).t.rows,zb]
    refine ways (λj=>?_) (λj=>?_)
    ·have j:=xO j
     simp only[go_sem,b,d,i,j,(k.app _).r.rows,(k.app _).t.rows,zb]
     refine ways (λl=>?_) (λl=>?_)
     ·have l:=xO l
      simp only[go_sem,b,d,i,j,l,(k.app _).r.rows,(k.app _).t.rows,zb]
      refine zh (c83 _ a.t _ (-1) s.tiers f.nt (λo=>by simp only[go_sem];exact(k.app _).t) (by simp only[go_sem])) ?_
      rintro _ n ⟨rfl,p,m⟩
      subst m
      simp only[go_sem,b,d,i,j,l,(k.app _).r.rows,(k.app _).t.rows,zb]
      refine zn ?_<;>(simp only[go_sem,wZ,b,d,i,j,l,(k.app _).r.rows,(k.app _).t.rows,zb]<;>try rfl)
     ·have l:=xN l
      simp only[go_sem,b,d,i,j,l]
      refine zn ?_<;>(simp only[go_sem,wZ,b,d,i,j,l]<;>try rfl)
    ·have j:=xN j
     simp only[go_sem,b,d,i,j]
     refine zn ?_<;>(simp only[go_sem,wZ,b,d,i,j]<;>try rfl)
   ·have i:=xN i
    simp only[go_sem,b,d,i]
    refine zn ?_<;>(simp only[go_sem,wZ,b,d,i]<;>try rfl)
  ·have d:=xN d
   simp only[go_sem,b,d]
   refine zn ?_<;>(simp only[go_sem,wZ,b,d]<;>try rfl)
 ·have b:=xN b
  simp only[go_sem,b]
  refine zn ?_<;>(simp only[go_sem,wZ,b]<;>try rfl)
def z6(s:Setup):Bool:=yS s && yT s && wY s && wZ s
theorem c16(h:List Ob)(s:Setup)(a:SA)(k:SIn h s a)(f:SFit s):ACalls Tryz.prog 20 [jg s a] h λr h'=>r=bl (z6 s)/\h'=h:=by
 refine zj Tryz.f20 [.tmp 2] 17 rfl rfl rfl rfl rfl rfl (by decide) (⟨_,_,⟨rfl,rfl⟩,.refl⟩) λB=>?_
 simp only[go_sem,k.w.one,k.e.one,k.c.one,k.g.one,k.r.one,k.t.one]
 refine zh (c47 _ s a (k.app _) f) ?_
 rintro _ l ⟨rfl,j⟩
 subst j
 simp only[go_sem]
 refine ways (λb=>?_) (λb=>?_)
 ·have b:=xO b
  simp only[go_sem,b]
  refine zh (c48 _ s a (k.app _) f) ?_
  rintro _ l ⟨rfl,j⟩
  subst j
  simp only[go_sem,b]
  refine ways (λd=>?_) (λd=>?_)
  ·have d:=xO d
   simp only[go_sem,b,d]
   refine zh (c49 _ s a (k.app _) f) ?_
   rintro _ l ⟨rfl,j⟩
   subst j
   simp only[go_sem,b,d]
   refine ways (λi=>?_) (λi=>?_)
   ·have i:=xO i
    simp only[go_sem,b,d,i]
    refine zh (c50 _ s a (k.app _) f) ?_
    rintro _ l ⟨rfl,j⟩
    subst j
    simp only[go_sem,b,d,i]
    refine zn ?_<;>(simp only[go_sem,z6,b,d,i]<;>try rfl)
   ·have i:=xN i
    simp only[go_sem,b,d,i]
    refine zn ?_<;>(simp only[go_sem,z6,b,d,i]<;>try rfl)
  ·have d:=xN d
   simp only[go_sem,b,d]
   refine zn ?_<;>(simp only[go_sem,z6,b,d]<;>try rfl)
 ·have b:=xN b
  simp only[go_sem,b]
  refine zn ?_<;>(simp only[go_sem,z6,b]<;>try rfl)
attribute [go_sem] Vba Vca Yfa Yja W8a Yka qXb
structure Ev where
 id:Int
 worker:Int
 at_:Int
 kind:Int
 from_:Int
 to_:Int
 element:Int
 units:Int
 class_:Int
 gear:Int
 code:Int
abbrev evC(e:Ev):List AV:=[i64 e.id,i64 e.worker,i64 e.at_,i64 e.kind,i64 e.from_,i64 e.to_,i64 e.element,i64 e.units,i64 e.class_,i64 e.gear,i64 e.code]
abbrev evV(e:Ev):AV:= .ag (evC e)
def wh(i:Nat)(k:Int):List (List AV):=if k=3 then [[.ptr i 4],[.ptr i 5],[.ptr i 6],[.ptr i 7],[.ptr i 8],[.ptr i 9]] else if k=4 then [[.ptr i 10]] else []
def VJ(k:Int):Bool:=1==k || (2==k || (3==k || (4==k || (5==k || (6==k || 7==k)))))
theorem c71(h:List Ob)(i:Nat)(e:Ev)(hi:h[i]? =some (.box 75 (evC e))):
  ACalls Tryz.prog 180 [.ptr i 0] h λr h'=>∃L x,h'=h++L/\r= .tup [x,bl (VJ e.kind)]/\∀a:List Ob,a.length=h.length->SlOf (a++L) x 1 (wh i e.kind):=by
 have c:∀M,(h++M)[i]? =some (.box 75 (evC e)):=λM=>ze hi
 refine zj Tryz.f180 [.tmp 2,.tmp 3] 43 rfl rfl rfl rfl rfl rfl (by decide) (⟨_,h,⟨[],.sl 1 _,by simp,rfl,λ_ _=>⟨rfl,λ_=>rfl⟩⟩,.refl⟩) λB=>?_
 simp only[go_sem,hi]
 refine zQ rfl [.res,.res,.res] 3 [(6,0,[]),(7,0,[]),(8,0,[]),(9,0,[]),(10,0,[]),(11,0,[]),(12,0,[]),(13,0,[]),(14,0,[]),(15,0,[]),(16,0,[]),(17,0,[]),(18,0,[]),(19,0,[]),(20,0,[]),(21,0,[]),(22,0,[]),(23,0,[]),(26,0,[]),(27,0,[]),(28,0,[]),(0,0,[]),(1,0,[]),(2,0,[]),(3,0,[]),(4,0,[]),(5,0,[]),(24,1,[]),(25,0,[]),(29,2,[]),(30,0,[]),(31,0,[]),(32,0,[])] rfl (by decide) (by decide) ?_
 simp only[go_sem,c]
 refine⟨.tup [if 1=e.kind then AV.v (Value.slice none 0 0) else if 2=e.kind then AV.v (Value.slice none 0 0) else if 3=e.kind then AV.tl (h.length+1) 0 else if 4=e.kind then AV.tl (h.length+2) 0 else if 5=e.kind then AV.v (Value.slice none 0 0) else if 6=e.kind then AV.v (Value.slice none 0 0) else if 7=e.kind then AV.v (Value.slice none 0 0) else AV.v (Value.slice none 0 0),bl (VJ e.kind)],by simp only[go_sem,VJ]<;>rfl,.inl ⟨_,_,rfl,rfl,λa b=>?_⟩⟩
 rw[<-b]
 by_cases k1:e.kind=3
 ·rw[wh,if_pos k1,k1]
  exact⟨by simp only[go_sem],λ_=>by simp only[go_sem]⟩
 ·by_cases k2:e.kind=4
  ·rw[wh,if_neg k1,if_pos k2,k2]
   exact⟨by simp only[go_sem],λ_=>by simp only[go_sem]⟩
  ·rw[wh,if_neg k1,if_neg k2]
   have a1:¬ 3=e.kind:=λh=>k1 h.symm
   have a2:¬ 4=e.kind:=λh=>k2 h.symm
   simp only[if_neg a1,if_neg a2,ite_self]
   exact⟨rfl,λh=>absurd rfl h⟩
def Q2(n a:Int):Bool:=decide (n≥0) && decide (n<=a)
theorem c72(n a:Int):xy Tryz.prog 181 [i64 n,i64 a] (bl (Q2 n a)):=λh=>by
 refine zj Tryz.f181 [.tmp 4] 12 rfl rfl rfl rfl rfl rfl (by decide) (⟨_,_,⟨rfl,rfl⟩,.refl⟩) λB=>?_
 simp only[go_sem]
 refine ways (λe=>?_) (λe=>?_)
 ·have e:=xO e
  simp only[go_sem,e]
  refine zn ?_<;>(simp only[go_sem,Q2,e]<;>try rfl)
 ·have e:=xN e
  simp only[go_sem,e]
  refine zn ?_<;>(simp only[go_sem,Q2,e]<;>try rfl)
theorem q1b(n:Int):xy Tryz.prog 195 [i64 n] (bl false):=λh=>by
 refine zj Tryz.f195 [.tmp 2] 6 rfl rfl rfl rfl rfl rfl (by decide) (⟨_,_,⟨rfl,rfl⟩,.refl⟩) λB=>?_
 simp only[go_sem]
 refine zn ?_<;>(simp only[go_sem,bne_self_eq_false]<;>try rfl)
def Kh(a b:Int):Int:=if a<b then -1 else if a>b then 1 else 0
theorem c95(a b:Int):xy Tryz.prog 122 [i64 a,i64 b] (i64 (Kh a b)):=λh=>by
 refine zj Tryz.f122 [.tmp 4] 20 rfl rfl rfl rfl rfl rfl (by decide) (⟨_,_,⟨rfl,rfl⟩,.refl⟩) λB=>?_
 simp only[go_sem]
 refine zh (q1b a _) ?_
 rintro _ _ ⟨rfl,rfl⟩
 simp only[go_sem]
 refine zh (q1b b _) ?_
 rintro _ _ ⟨rfl,rfl⟩
 simp only[go_sem]
 refine ways (λe=>?_) (λe=>?_)
 ·simp only[go_sem]
  refine zn ?_<;>(simp only[go_sem,Kh,of_decide_eq_true e]<;>try rfl)
 ·simp only[go_sem]
  refine ways (λc=>?_) (λc=>?_)
  ·simp only[go_sem]
   refine zn ?_<;>(simp only[go_sem,Kh,of_decide_eq_false e,of_decide_eq_true c]<;>try rfl)
  ·simp only[go_sem]
   refine zn ?_<;>(simp only[go_sem,Kh,of_decide_eq_false e,of_decide_eq_false c]<;>try rfl)
def orI:List Int->Int
 | []=>0
 | n::l=>if n≠0 then n else orI l
theorem xOb(h:List Ob)(x:AV)(a b:Int)(c:SlOf h x 1 [[i64 a],[i64 b]]):ACalls Tryz.prog 176 [x] h λr h'=>r=i64 (orI [a,b])/\h'=h:=by
 have j:=c.at (i:=0) (by simp)
 refine zj Tryz.f176 [.tmp 2] 18 rfl rfl rfl rfl rfl rfl (by decide) (⟨_,_,⟨rfl,rfl⟩,.refl⟩) λB=>?_
 simp only[go_sem,c.rows]
 refine yy 3 (xz (by decide) ?_)
 simp only[go_sem,c.rows,j]
 refine ways (λe=>?_) (λe=>?_)
 ·simp only[go_sem]
  have d:¬ a=0:=by simpa using e
  refine zn ?_<;>(simp only[go_sem,orI,d,ne_eq,not_false_eq_true]<;>try rfl)
 ·have d:a=0:=by simpa using e
  simp only[go_sem]
  refine xz (by decide) ?_
  simp only[go_sem,c.rows,j]
  refine ways (λf=>?_) (λf=>?_)
  ·simp only[go_sem]
   have g:¬ b=0:=by simpa using f
   refine zn ?_<;>(simp only[go_sem,orI,d,g,ne_eq,not_false_eq_true,not_true_eq_false]<;>try rfl)
  ·have g:b=0:=by simpa using f
   simp only[go_sem]
   refine xz (by decide) ?_
   simp only[go_sem]
   refine zn ?_<;>(simp only[go_sem,orI,d,g,ne_eq,not_false_eq_true,not_true_eq_false]<;>try rfl)
def VBa(a b:Ev):Int:=orI [Kh a.at_ b.at_,Kh a.id b.id]
theorem c89(a b:Ev):xy Tryz.prog 111 [evV a,evV b] (i64 (VBa a b)):=λh=>by
 refine zj Tryz.f111 [.tmp 4] 17 rfl rfl rfl rfl rfl rfl (by decide) (⟨_,_,⟨rfl,rfl⟩,.refl⟩) λB=>?_
 simp only[go_sem]
 refine zQ rfl [.res] 1 [(0,0,[]),(2,0,[]),(5,0,[]),(7,0,[]),(1,0,[]),(3,0,[]),(6,0,[]),(8,0,[]),(4,0,[6,8]),(9,0,[]),(10,0,[]),(11,0,[]),(12,0,[])] rfl (by decide) (by decide) ?_
 simp only[go_sem]
 refine zh (c95 a.at_ b.at_ _) ?_
 rintro _ d ⟨rfl,c⟩
 subst c
 simp only[go_sem]
 refine zh (c95 a.id b.id _) ?_
 rintro _ d ⟨rfl,c⟩
 subst c
 simp only[go_sem]
 refine zh (xOb _ _ (Kh a.at_ b.at_) (Kh a.id b.id) ⟨by simp only[go_sem],λ_=>by simp only[go_sem]⟩) ?_
 rintro _ d ⟨rfl,c⟩
 subst c
 simp only[go_sem]
 refine zn ?_<;>(simp only[go_sem,VBa]<;>try rfl)
