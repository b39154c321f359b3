import Derived.Test.YtigdlmpjijhpaaaGreatBA
import Derived.Test.YtigdlmpjijhpaaaGreatB12
set_option linter.all false
namespace Go.Proofs.YtigdlmpjijhpaaaGreat.Ax
open Go Go.Proofs
set_option maxRecDepth 100000
attribute [go_sem] zNb
def Vu:List AV->Int
 | [.v (.int _ n)]=>n
 | _=>0
def qB(n:Int):List AV:=[i64 n]
def z7a(lo hi n:Int):Bool:=decide (n<lo) || decide (n>hi)
def Qh(lo hi:Int)(l:List Int):Bool:= !l.any (z7a lo hi)
theorem c99(h:List Ob)(i j:Nat)(lo hi n:Int)(a:h[i]? =some (.box 3 [i64 lo]))(b:h[j]? =some (.box 3 [i64 hi])):
  ACalls Tryz.prog 211 [i64 n,.ptr i 0,.ptr j 0] h λr h'=>r=bl (z7a lo hi n)/\h'=h:=by
 refine zj Tryz.f211 [.tmp 4] 13 rfl rfl rfl rfl rfl rfl (by decide) (⟨_,_,⟨rfl,rfl⟩,.refl⟩) λB=>?_
 simp only[go_sem,a]
 refine ways (λe=>?_) (λe=>?_)
 ·have e:=vb e
  simp only[go_sem,e,a,b]
  refine zm ?_<;>(simp only[go_sem,z7a,e]<;>try rfl)
 ·have e:=va e
  simp only[go_sem,e,a,b]
  refine zm ?_<;>(simp only[go_sem,z7a,e]<;>try rfl)
theorem c77(h:List Ob)(x:AV)(lo hi:Int)(l:List Int)(d:l.length<9223372036854775808)(c:SlOf h x 1 (l.map qB)):
  ACalls Tryz.prog 142 [i64 lo,i64 hi,x] h λr h'=>r=bl (Qh lo hi l)/\h'=h:=by
 refine zj Tryz.f142 [.tmp 6] 11 rfl rfl rfl rfl rfl rfl (by decide) (⟨_,_,⟨rfl,rfl⟩,.refl⟩) λB=>?_
 simp only[go_sem]
 refine zg (c98 _ x 211 _ (l.map qB) (λr=>z7a lo hi (Vu r)) (by simpa using d) (by simp[qB]) (c.app _) ?_) ?_
 ·intro row a L
  obtain⟨n,_,rfl⟩:=zw.1 a
  refine c99 _ _ _ lo hi n ?_ ?_
  all_goals simp only[go_sem]
 ·rintro _ e ⟨rfl,b⟩
  subst b
  simp only[go_sem]
  refine zm ?_<;>(simp only[go_sem,Qh,List.any_map,Function.comp_def,qB,Vu]<;>try rfl)
def KF(p:qt):Bool:=decide (p.1<0) || !rok p
theorem xib(p:qt)(a:jo p):xw Tryz.prog 214 [rat p] (bl (KF p)):=λh=>by
 refine zj Tryz.f214 [.tmp 2] 11 rfl rfl rfl rfl rfl rfl (by decide) (⟨_,_,⟨rfl,rfl⟩,.refl⟩) λB=>?_
 simp only[go_sem]
 refine ways (λe=>?_) (λe=>?_)
 ·have e:=vb e
  simp only[go_sem,e]
  refine zg (c27 p a.1 a.2 _) ?_
  rintro _ c ⟨rfl,b⟩
  subst b
  simp only[go_sem,e]
  refine zm ?_<;>(simp only[go_sem,KF,e]<;>try rfl)
 ·have e:=va e
  simp only[go_sem,e]
  refine zm ?_<;>(simp only[go_sem,KF,e]<;>try rfl)
def JRa:List AV->qt
 | [.v (.int _ n),.v (.int _ d)]=>(n,d)
 | _=>(0,0)
def Xe(l:List qt):Bool:= !l.any KF
theorem c80(h:List Ob)(x:AV)(l:List qt)(g:∀p∈l,jo p)(f:l.length<9223372036854775808)(e:SlOf h x 2 (l.map jP)):
  ACalls Tryz.prog 145 [x] h λr h'=>r=bl (Xe l)/\h'=h:=by
 refine zj Tryz.f145 [.tmp 2] 6 rfl rfl rfl rfl rfl rfl (by decide) (⟨_,_,⟨rfl,rfl⟩,.refl⟩) λB=>?_
 simp only[go_sem]
 refine zg (xfb _ x 214 _ (l.map jP) (λr=>KF (JRa r)) (by simpa using f) (λr b=>by obtain⟨p,_,rfl⟩:=zw.1 b;rfl) e ?_) ?_
 ·intro row a L
  obtain⟨p,d,rfl⟩:=zw.1 a
  exact xib p (g p d) _
 ·rintro _ i ⟨rfl,c⟩
  subst c
  simp only[go_sem]
  refine zm ?_<;>(simp only[go_sem,Xe,List.any_map,Function.comp_def,jP,JRa]<;>try rfl)
abbrev Way:=Int × Int × Int
def XW(w:Way):List AV:=[i64 w.1,i64 w.2.1,i64 w.2.2]
def JSa:List AV->Way
 | [.v (.int _ a),.v (.int _ b),.v (.int _ m)]=>(a,b,m)
 | _=>(0,0,0)
abbrev Elt:=qt × qt
def XX(e:Elt):List AV:=[i64 e.1.1,i64 e.1.2,i64 e.2.1,i64 e.2.2]
def v2a:List AV->Elt
 | [.v (.int _ a),.v (.int _ b),.v (.int _ c),.v (.int _ d)]=>((a,b),(c,d))
 | _=>((0,0),(0,0))
abbrev KG:=Int × Int
structure Setup where
 places:Int
 ways:List Way
 pace:qt
 elements:List Elt
 classes:List qt
 gears:List qt
 allow:Int
 unit:Int
 cap:Int
 paidBreak:Int
 autoAfter:Int
 autoBreak:Int
 dayReg:Int
 dayOver:Int
 weekReg:Int
 nightFrom:Int
 nightTo:Int
 rates:List Int
 diff:Int
 least:Int
 fault:Int
 tiers:List KG
structure SA where
 w:AV
 e:AV
 c:AV
 g:AV
 r:AV
 t:AV
abbrev qd(s:Setup)(a:SA):List AV:=[i64 s.places,a.w,i64 s.pace.1,i64 s.pace.2,a.e,a.c,a.g,i64 s.allow,i64 s.unit,i64 s.cap,i64 s.paidBreak,i64 s.autoAfter,i64 s.autoBreak,
 i64 s.dayReg,i64 s.dayOver,i64 s.weekReg,i64 s.nightFrom,i64 s.nightTo,a.r,i64 s.diff,i64 s.least,i64 s.fault,a.t]
abbrev je(s:Setup)(a:SA):AV:= .ag (qd s a)
structure SIn (h:List Ob) (s:Setup) (a:SA):Prop where
 w:SlOf h a.w 3 (s.ways.map XW)
 e:SlOf h a.e 4 (s.elements.map XX)
 c:SlOf h a.c 2 (s.classes.map jP)
 g:SlOf h a.g 2 (s.gears.map jP)
 r:SlOf h a.r 1 (s.rates.map qB)
 t:SlOf h a.t 2 (s.tiers.map jP)
theorem SIn.app{h:List Ob}{s:Setup}{a:SA}(k:SIn h s a)(L:List Ob):SIn (h++L) s a:=⟨k.w.app L,k.e.app L,k.c.app L,k.g.app L,k.r.app L,k.t.app L⟩
structure SFit (s:Setup):Prop where
 places:Fit s.places
 pace:jo s.pace
 elements:∀e∈s.elements,jo e.1/\jo e.2
 classes:∀p∈s.classes,jo p
 gears:∀p∈s.gears,jo p
 tiers:∀t∈s.tiers,jo t
 nw:s.ways.length<9223372036854775808
 ne:s.elements.length<9223372036854775808
 nc:s.classes.length<9223372036854775808
 ng:s.gears.length<9223372036854775808
 nr:s.rates.length<9223372036854775808
 nt:s.tiers.length<9223372036854775808
def JC(places:Int)(w:Way):Bool:= !Qh 0 (wr (places - 1)) [w.1,w.2.1] || w.1==w.2.1 || !Qh 1 10000 [w.2.2]
theorem c76(h:List Ob)(i:Nat)(s:Setup)(a:SA)(w:Way)(c:h[i]? =some (.box 30 (qd s a))):
  ACalls Tryz.prog 141 [.ag (XW w),.ptr i 0] h λr h'=>r=bl (JC s.places w)/\h'=h:=by
 refine zj Tryz.f141 [.tmp 3] 28 rfl rfl rfl rfl rfl rfl (by decide) (⟨_,_,⟨rfl,rfl⟩,.refl⟩) λB=>?_
 simp only[go_sem,c,XW]
 have g:∀M,(h++M)[i]? =some (.box 30 (qd s a)):=λM=>zf c
 simp only[go_sem,g]
 refine zg (c77 _ _ 0 _ [w.1,w.2.1] (by simp) ⟨by simp only[go_sem,qB],λ_=>by simp only[go_sem,qB]⟩) ?_
 rintro _ f ⟨rfl,d⟩
 subst d
 simp only[go_sem]
 refine ways (λe=>?_) (λe=>?_)
 ·have e:=vb e
  simp only[go_sem,e]
  refine ways (λb=>?_) (λb=>?_)
  ·have b:=vb b
   simp only[go_sem,e,b]
   refine zg (c77 _ _ 1 10000 [w.2.2] (by simp) ⟨by simp only[go_sem,qB],λ_=>by simp only[go_sem,qB]⟩) ?_
   rintro _ f ⟨rfl,d⟩
   subst d
   simp only[go_sem,e,b]
   refine zm ?_<;>(simp only[go_sem,JC,e,b]<;>try rfl)
  ·have b:=va b
   simp only[go_sem,e,b]
   refine zm ?_<;>(simp only[go_sem,JC,e,b]<;>try rfl)
 ·have e:=va e
  simp only[go_sem,e]
  refine zm ?_<;>(simp only[go_sem,JC,e]<;>try rfl)
def yH(s:Setup):Bool:=Qh 1 16 [s.places] && decide ((s.ways.length:Int)<=64) && !s.ways.any (JC s.places)
theorem c47(h:List Ob)(s:Setup)(a:SA)(k:SIn h s a)(f:SFit s):ACalls Tryz.prog 64 [je s a] h λr h'=>r=bl (yH s)/\h'=h:=by
 refine zj Tryz.f64 [.tmp 2] 22 rfl rfl rfl rfl rfl rfl (by decide) (⟨_,_,⟨rfl,rfl⟩,.refl⟩) λB=>?_
 simp only[go_sem,k.w.one,k.e.one,k.c.one,k.g.one,k.r.one,k.t.one]
 refine zg (c77 _ _ 1 16 [s.places] (by simp) ⟨by simp only[go_sem,qB],λ_=>by simp only[go_sem,qB]⟩) ?_
 rintro _ l ⟨rfl,i⟩
 subst i
 simp only[go_sem]
 refine ways (λe=>?_) (λe=>?_)
 ·have e:=xJ e
  simp only[go_sem,e,(k.app _).w.rows,zb]
  refine ways (λb=>?_) (λb=>?_)
  ·have b:=xJ b
   simp only[go_sem,e,b]
   refine zg (c78 _ a.w 141 _ (s.ways.map XW) (λr=>JC s.places (JSa r)) (by simpa using f.nw) (λr j=>by obtain⟨p,_,rfl⟩:=zw.1 j;rfl) (k.app _).w ?_) ?_
   ·intro row d L
    obtain⟨p,m,rfl⟩:=zw.1 d
    refine c76 _ _ s a p ?_
    simp only[go_sem]
   ·rintro _ l ⟨rfl,i⟩
    subst i
    simp only[go_sem]
    refine zm ?_<;>(simp only[go_sem,yH,e,b,List.any_map,Function.comp_def,XW,JSa]<;>try rfl)
  ·have b:=xI b
   simp only[go_sem,e,b]
   refine zm ?_<;>(simp only[go_sem,yH,e,b]<;>try rfl)
 ·have e:=xI e
  simp only[go_sem,e]
  refine zm ?_<;>(simp only[go_sem,yH,e]<;>try rfl)
def Vv(e:Elt):Bool:= !Xe [e.1,e.2]
theorem c79(e:Elt)(a:jo e.1/\jo e.2):xw Tryz.prog 144 [.ag (XX e)] (bl (Vv e)):=λh=>by
 refine zj Tryz.f144 [.tmp 2] 10 rfl rfl rfl rfl rfl rfl (by decide) (⟨_,_,⟨rfl,rfl⟩,.refl⟩) λB=>?_
 simp only[go_sem,XX]
 refine zg (c80 _ _ [e.1,e.2] (by simpa using a) (by simp) ⟨by simp only[go_sem,jP],λ_=>by simp only[go_sem,jP]⟩) ?_
 rintro _ c ⟨rfl,b⟩
 subst b
 simp only[go_sem]
 refine zm ?_<;>(simp only[go_sem,Vv]<;>try rfl)
def K9a(a b c:Int):Int:=if c>(if b>a then b else a) then c else(if b>a then b else a)
def yI(s:Setup):Bool:=Xe [s.pace] && Xe s.classes && Xe s.gears && !s.elements.any Vv && decide (K9a s.elements.length s.classes.length s.gears.length<=8)
theorem c48(h:List Ob)(s:Setup)(a:SA)(k:SIn h s a)(f:SFit s):ACalls Tryz.prog 65 [je s a] h λr h'=>r=bl (yI s)/\h'=h:=by
 refine zj Tryz.f65 [.tmp 2] 38 rfl rfl rfl rfl rfl rfl (by decide) (⟨_,_,⟨rfl,rfl⟩,.refl⟩) λB=>?_
 simp only[go_sem,k.w.one,k.e.one,k.c.one,k.g.one,k.r.one,k.t.one]
 refine zg (c80 _ _ [s.pace] (by simpa using f.pace) (by simp) ⟨by simp only[go_sem,jP],λ_=>by simp only[go_sem,jP]⟩) ?_
 rintro _ n ⟨rfl,j⟩
 subst j
 simp only[go_sem]
 refine ways (λe=>?_) (λe=>?_)
 ·have e:=xJ e
  simp only[go_sem,e]
  refine zg (c80 _ a.c s.classes f.classes f.nc (k.app _).c) ?_
  rintro _ n ⟨rfl,j⟩
  subst j
  simp only[go_sem,e]
  refine ways (λb=>?_) (λb=>?_)
  ·have b:=xJ b
   simp only[go_sem,e,b]
   refine zg (c80 _ a.g s.gears f.gears f.ng (k.app _).g) ?_
   rintro _ n ⟨rfl,j⟩
   subst j
   simp only[go_sem,e,b]
   refine ways (λd=>?_) (λd=>?_)
   ·have d:=xJ d
    simp only[go_sem,e,b,d]
    refine zg (c81 _ a.e 144 _ (s.elements.map XX) (λr=>Vv (v2a r)) (by simpa using f.ne) (λr o=>by obtain⟨p,_,rfl⟩:=zw.1 o;rfl) (k.app _).e ?_) ?_
    ·intro row m L
     obtain⟨p,q,rfl⟩:=zw.1 m
     exact c79 p (f.elements p q) _
    ·rintro _ n ⟨rfl,j⟩
     subst j
     have l:(s.elements.map XX).any (λr=>Vv (v2a r))=s.elements.any Vv:=by simp only[List.any_map,Function.comp_def,XX,v2a]
     simp only[go_sem,l,e,b,d]
     refine ways (λi=>?_) (λi=>?_)
     ·have i:=xJ i
      simp only[go_sem,e,b,d,i,(k.app _).e.rows,(k.app _).c.rows,(k.app _).g.rows,zb]
      refine zm ?_<;>(simp only[go_sem,yI,e,b,d,i,K9a]<;>try rfl)
     ·have i:=xI i
      simp only[go_sem,e,b,d,i]
      refine zm ?_<;>(simp only[go_sem,yI,e,b,d,i]<;>try rfl)
   ·have d:=xI d
    simp only[go_sem,e,b,d]
    refine zm ?_<;>(simp only[go_sem,yI,e,b,d]<;>try rfl)
  ·have b:=xI b
   simp only[go_sem,e,b]
   refine zm ?_<;>(simp only[go_sem,yI,e,b]<;>try rfl)
 ·have e:=xI e
  simp only[go_sem,e]
  refine zm ?_<;>(simp only[go_sem,yI,e]<;>try rfl)
def wL(s:Setup):Bool:=Qh 0 100 [s.allow] && Qh 1 3600 [s.unit] && Qh 60 57600 [s.cap] && Qh 0 86400 [s.paidBreak,s.autoAfter,s.autoBreak,s.nightFrom,s.nightTo,s.fault,s.dayOver] && Qh 0 s.dayOver [s.dayReg] && Qh 0 604800 [s.weekReg]
theorem c49(h:List Ob)(s:Setup)(a:SA)(k:SIn h s a)(f:SFit s):ACalls Tryz.prog 66 [je s a] h λr h'=>r=bl (wL s)/\h'=h:=by
 refine zj Tryz.f66 [.tmp 2] 51 rfl rfl rfl rfl rfl rfl (by decide) (⟨_,_,⟨rfl,rfl⟩,.refl⟩) λB=>?_
 simp only[go_sem,k.w.one,k.e.one,k.c.one,k.g.one,k.r.one,k.t.one]
 refine zg (c77 _ _ 0 100 [s.allow] (by simp) ⟨by simp only[go_sem,qB],λ_=>by simp only[go_sem,qB]⟩) ?_
 rintro _ n ⟨rfl,l⟩
 subst l
 simp only[go_sem]
 refine ways (λb=>?_) (λb=>?_)
 ·have b:=xJ b
  simp only[go_sem,b]
  refine zg (c77 _ _ 1 3600 [s.unit] (by simp) ⟨by simp only[go_sem,qB],λ_=>by simp only[go_sem,qB]⟩) ?_
  rintro _ n ⟨rfl,l⟩
  subst l
  simp only[go_sem,b]
  refine ways (λd=>?_) (λd=>?_)
  ·have d:=xJ d
   simp only[go_sem,b,d]
   refine zg (c77 _ _ 60 57600 [s.cap] (by simp) ⟨by simp only[go_sem,qB],λ_=>by simp only[go_sem,qB]⟩) ?_
   rintro _ n ⟨rfl,l⟩
   subst l
   simp only[go_sem,b,d]
   refine ways (λi=>?_) (λi=>?_)
   ·have i:=xJ i
    simp only[go_sem,b,d,i]
    refine zg (c77 _ _ 0 86400 [s.paidBreak,s.autoAfter,s.autoBreak,s.nightFrom,s.nightTo,s.fault,s.dayOver] (by simp) ⟨by simp only[go_sem,qB],λ_=>by simp only[go_sem,qB]⟩) ?_
    rintro _ n ⟨rfl,l⟩
    subst l
    simp only[go_sem,b,d,i]
    refine ways (λj=>?_) (λj=>?_)
    ·have j:=xJ j
     simp only[go_sem,b,d,i,j]
     refine zg (c77 _ _ 0 _ [s.dayReg] (by simp) ⟨by simp only[go_sem,qB],λ_=>by simp only[go_sem,qB]⟩) ?_
     rintro _ n ⟨rfl,l⟩
     subst l
     simp only[go_sem,b,d,i,j]
     refine ways (λm=>?_) (λm=>?_)
     ·have m:=xJ m
      simp only[go_sem,b,d,i,j,m]
      refine zg (c77 _ _ 0 604800 [s.weekReg] (by simp) ⟨by simp only[go_sem,qB],λ_=>by simp only[go_sem,qB]⟩) ?_
      rintro _ n ⟨rfl,l⟩
      subst l
      simp only[go_sem,b,d,i,j,m]
      refine zm ?_<;>(simp only[go_sem,wL,b,d,i,j,m]<;>try rfl)
     ·have m:=xI m
      simp only[go_sem,b,d,i,j,m]
      refine zm ?_<;>(simp only[go_sem,wL,b,d,i,j,m]<;>try rfl)
    ·have j:=xI j
     simp only[go_sem,b,d,i,j]
     refine zm ?_<;>(simp only[go_sem,wL,b,d,i,j]<;>try rfl)
   ·have i:=xI i
    simp only[go_sem,b,d,i]
    refine zm ?_<;>(simp only[go_sem,wL,b,d,i]<;>try rfl)
  ·have d:=xI d
   simp only[go_sem,b,d]
   refine zm ?_<;>(simp only[go_sem,wL,b,d]<;>try rfl)
 ·have b:=xI b
  simp only[go_sem,b]
  refine zm ?_<;>(simp only[go_sem,wL,b]<;>try rfl)
def Zf(last:Int)(t:KG):Bool:=decide (t.1<=last) || decide (t.1>1000) || !Qh 0 100000 [t.2]
theorem c82(h:List Ob)(i:Nat)(last:Int)(t:KG)(c:h[i]? =some (.box 3 [i64 last])):
  ACalls Tryz.prog 147 [.ag (jP t),.ptr i 0] h λr h'=>r=bl (Zf last t)/\h'=h.set i (.box 3 [i64 t.1]):=by
 have d:∀M,(h++M)[i]? =some (.box 3 [i64 last]):=λM=>zf c
 have g:∀M o,(h++M).set i o=h.set i o++M:=λM o=>jh c
 have fin:∀(T:Env) (M:List Ob) (b:Bool),T 3=bl b->b=Zf last t->xAa Tryz.prog [.tmp 3] h (λr h'=>r=bl (Zf last t)/\h'=h.set i (.box 3 [i64 t.1])) .ret T (h.set i (.box 3 [i64 t.1])++M):=λT M b j f=>
  ⟨bl b,by simp only[go_sem,j],.inr ⟨_,M,rfl,by simp,rfl,KeepLt.refl.set rfl rfl,by rw[f],rfl⟩⟩
 refine zj Tryz.f147 [.tmp 3] 24 rfl rfl rfl rfl rfl rfl (by decide) (⟨_,_,⟨rfl,rfl⟩,qj c rfl⟩) λB=>?_
 simp only[go_sem,c,jP,d]
 refine ways (λe=>?_) (λe=>?_)
 ·have e:=vb e
  simp only[go_sem,e]
  refine ways (λa=>?_) (λa=>?_)
  ·have a:=vb a
   simp only[go_sem,e,a]
   refine zg (c77 _ _ 0 100000 [t.2] (by simp) ⟨by simp only[go_sem,qB],λ_=>by simp only[go_sem,qB]⟩) ?_
   rintro _ k ⟨rfl,f⟩
   subst f
   simp only[go_sem,e,a,d,g]
   refine fin _ _ (!Qh 0 100000 [t.2]) ?_ ?_
   ·simp only[go_sem]
   ·simp only[Zf,e,a,Bool.false_or]
  ·have a:=va a
   simp only[go_sem,e,a,d,g]
   refine fin _ _ true ?_ ?_
   ·simp only[go_sem]
   ·simp only[Zf,e,a,Bool.false_or,Bool.true_or]
 ·have e:=va e
  simp only[go_sem,e,d,g]
  refine fin _ _ true ?_ ?_
  ·simp only[go_sem]
  ·simp only[Zf,e,Bool.true_or]
def xV:Int->List KG->Bool
 | _,[]=>false
 | last,t::l=>Zf last t || xV t.1 l
theorem xjb(h:List Ob)(x:AV)(i:Nat)(last:Int)(l:List KG)(G:l.length<9223372036854775808)(C:∀o,SlOf (h.set i o) x 2 (l.map jP))(f:h[i]? =some (.box 3 [i64 last])):
  ACalls Tryz.prog 216 [x,.fn (.func 147) [] [.ptr i 0]] h λr h'=>∃n m,r=i64 n/\h'=h.set i (.box 3 [i64 m])/\decide (n≥0)=xV last l:=by
 have a:h.set i (.box 3 [i64 last])=h:=by
  apply qP
  intro j
  by_cases D:j=i
  ·subst D;rw[zq f,f]
  ·rw[zc (λe=>D e.symm)]
 have s:=C (.box 3 [i64 last])
 rw[a] at s
 refine zj Tryz.f216 [.tmp 4] 19 rfl rfl rfl rfl rfl rfl (by decide) (⟨_,_,⟨if xV last l then 0 else -1,last,rfl,rfl,by split<;>simp_all⟩,qj f rfl⟩) λB=>?_
 simp only[go_sem,s.rows,zb]
 refine zP (by decide) (λn T h'=>∃(k:Nat) (d:Int),h'=h.set i (.box 3 [i64 d])/\T 0=x/\T 1= .fn (.func 147) [] [.ptr i 0]/\T 7=i64 l.length/\T 8=i64 k/\k<=l.length/\xV last l=xV d (l.drop k)/\n=l.length - k) l.length
  ⟨0,last,a.symm,by simp only[go_sem],by simp only[go_sem],by simp only[go_sem],by(simp only[go_sem]<;>rfl),by omega,rfl,rfl⟩ ?_
 rintro n T h' ⟨k,d,rfl,t0,t1,y,t8,H,h0,rfl⟩
 have A:=zq (b:=Ob.box 3 [i64 d]) f
 have q:∀o,(h.set i (.box 3 [i64 d])).set i o=h.set i o:=λo=>zU ..
 have p:=C (.box 3 [i64 d])
 simp only[go_sem,y,t8]
 refine ways (λz=>?_) (λz=>?_)
 ·have c:k<l.length:=by simpa using z
  have w:=p.at (i:=k) (by simpa using c)
  have g:(l.map jP)[k]? =some (jP l[k]):=by simp[c]
  have u:(k:Int)<l.length:=by omega
  have v:=c82 (h.set i (.box 3 [i64 d])) i d l[k] A
  rw[q] at v
  simp only[jP] at g v
  rw[qI c] at h0
  simp only[go_sem,w,p.rows,g,u,t0,t1,y,t8,Int.toNat_natCast,zh,zb]
  refine zg v ?_
  rintro _ F ⟨rfl,E⟩
  subst E
  simp only[go_sem]
  refine ways (λt=>?_) (λt=>?_)
  ·simp only[go_sem,t8]
   exact⟨i64 k,by simp only[go_sem],.inl ⟨k,l[k].1,rfl,rfl,by rw[h0];simp[xV,t]⟩⟩
  ·simp only[go_sem,t8,xx (show k<9223372036854775807 by omega)]
   refine⟨l.length - (k+1),by omega,k+1,l[k].1,rfl,t0,t1,y,rfl,by omega,?_,rfl⟩
   rw[h0];simp[xV,t]
 ·have c:k=l.length:=by
   have:¬ (k:Int)<l.length:=by simpa using z
   omega
  rw[c,List.drop_length] at h0
  simp only[go_sem]
  exact⟨i64 (-1),by simp only[go_sem],.inl ⟨-1,d,rfl,rfl,by rw[h0];rfl⟩⟩
theorem c83(h:List Ob)(x:AV)(i:Nat)(last:Int)(l:List KG)(e:l.length<9223372036854775808)(f:∀o,SlOf (h.set i o) x 2 (l.map jP))(b:h[i]? =some (.box 3 [i64 last])):
  ACalls Tryz.prog 148 [x,.fn (.func 147) [] [.ptr i 0]] h λr h'=>r=bl (xV last l)/\∃a,h'=h.set i (.box 3 [i64 a]):=by
 refine zj Tryz.f148 [.tmp 4] 9 rfl rfl rfl rfl rfl rfl (by decide) (⟨_,_,⟨rfl,last,rfl⟩,qj b rfl⟩) λB=>?_
 simp only[go_sem]
 refine zg (xjb h x i last l e f b) ?_
 rintro _ j ⟨n,g,rfl,d,c⟩
 subst d
 simp only[go_sem,c]
 exact⟨bl (xV last l),by simp only[go_sem],.inl ⟨rfl,g,rfl⟩⟩
def wM(s:Setup):Bool:=decide ((s.rates.length:Int)>0) && decide ((s.rates.length:Int)<=16) && Qh 0 100000 s.rates && Qh 0 100000 [s.diff,s.least] && decide ((s.tiers.length:Int)<=8) && !xV (-1) s.tiers
theorem c50(h:List Ob)(s:Setup)(a:SA)(k:SIn h s a)(f:SFit s):ACalls Tryz.prog 67 [je s a] h λr h'=>r=bl (wM s)/\h'=h:=by
 refine zj Tryz.f67 [.tmp 2] 42 rfl rfl rfl rfl rfl rfl (by decide) (⟨_,_,⟨rfl,rfl⟩,.refl⟩) λB=>?_
 simp only[go_sem,k.w.one,k.e.one,k.c.one,k.g.one,k.r.one,k.t.one,(k.app _).r.rows,zb]
 refine ways (λb=>?_) (λb=>?_)
 ·have b:=xJ b
  simp only[go_sem,b,(k.app _).r.rows,(k.app _).t.rows,zb]
  refine ways (λd=>?_) (λd=>?_)
  ·have d:=xJ d
   simp only[go_sem,b,d,(k.app _).r.rows,(k.app _).t.rows,zb]
   refine zg (c77 _ a.r 0 100000 s.rates f.nr (k.app _).r) ?_
   rintro _ n ⟨rfl,m⟩
   subst m
   simp only[go_sem,b,d,(k.app _).r.rows,(k.app _).t.rows,zb]
   refine ways (λi=>?_) (λi=>?_)
   ·have i:=xJ i
    simp only[go_sem,b,d,i,(k.app _).r.rows,(k.app _).t.rows,zb]
    refine zg (c77 _ _ 0 100000 [s.diff,s.least] (by simp) ⟨by simp only[go_sem,qB],λ_=>by simp only[go_sem,qB]⟩) ?_
    rintro _ n ⟨rfl,m⟩
    subst m
    simp only[go_sem,b,d,i,(k.app _).r.rows,(k.app _).t.rows,zb]
    refine ways (λj=>?_) (λj=>?_)
    ·have j:=xJ j
     simp only[go_sem,b,d,i,j,(k.app _).r.rows,(k.app _).t.rows,zb]
     refine ways (λl=>?_) (λl=>?_)
     ·have l:=xJ l
      simp only[go_sem,b,d,i,j,l,(k.app _).r.rows,(k.app _).t.rows,zb]
      refine zg (c83 _ a.t _ (-1) s.tiers f.nt (λo=>by simp only[go_sem];exact(k.app _).t) (by simp only[go_sem])) ?_
      rintro _ n ⟨rfl,p,m⟩
      subst m
      simp only[go_sem,b,d,i,j,l,(k.app _).r.rows,(k.app _).t.rows,zb]
      refine zm ?_<;>(simp only[go_sem,wM,b,d,i,j,l,(k.app _).r.rows,(k.app _).t.rows,zb]<;>try rfl)
     ·have l:=xI l
      simp only[go_sem,b,d,i,j,l]
      refine zm ?_<;>(simp only[go_sem,wM,b,d,i,j,l]<;>try rfl)
    ·have j:=xI j
     simp only[go_sem,b,d,i,j]
     refine zm ?_<;>(simp only[go_sem,wM,b,d,i,j]<;>try rfl)
   ·have i:=xI i
    simp only[go_sem,b,d,i]
    refine zm ?_<;>(simp only[go_sem,wM,b,d,i]<;>try rfl)
  ·have d:=xI d
   simp only[go_sem,b,d]
   refine zm ?_<;>(simp only[go_sem,wM,b,d]<;>try rfl)
 ·have b:=xI b
  simp only[go_sem,b]
  refine zm ?_<;>(simp only[go_sem,wM,b]<;>try rfl)
def qv(s:Setup):Bool:=yH s && yI s && wL s && wM s
theorem c16(h:List Ob)(s:Setup)(a:SA)(k:SIn h s a)(f:SFit s):ACalls Tryz.prog 20 [je s a] h λr h'=>r=bl (qv s)/\h'=h:=by
 refine zj Tryz.f20 [.tmp 2] 17 rfl rfl rfl rfl rfl rfl (by decide) (⟨_,_,⟨rfl,rfl⟩,.refl⟩) λB=>?_
 simp only[go_sem,k.w.one,k.e.one,k.c.one,k.g.one,k.r.one,k.t.one]
 refine zg (c47 _ s a (k.app _) f) ?_
 rintro _ l ⟨rfl,j⟩
 subst j
 simp only[go_sem]
 refine ways (λb=>?_) (λb=>?_)
 ·have b:=xJ b
  simp only[go_sem,b]
  refine zg (c48 _ s a (k.app _) f) ?_
  rintro _ l ⟨rfl,j⟩
  subst j
  simp only[go_sem,b]
  refine ways (λd=>?_) (λd=>?_)
  ·have d:=xJ d
   simp only[go_sem,b,d]
   refine zg (c49 _ s a (k.app _) f) ?_
   rintro _ l ⟨rfl,j⟩
   subst j
   simp only[go_sem,b,d]
   refine ways (λi=>?_) (λi=>?_)
   ·have i:=xJ i
    simp only[go_sem,b,d,i]
    refine zg (c50 _ s a (k.app _) f) ?_
    rintro _ l ⟨rfl,j⟩
    subst j
    simp only[go_sem,b,d,i]
    refine zm ?_<;>(simp only[go_sem,qv,b,d,i]<;>try rfl)
   ·have i:=xI i
    simp only[go_sem,b,d,i]
    refine zm ?_<;>(simp only[go_sem,qv,b,d,i]<;>try rfl)
  ·have d:=xI d
   simp only[go_sem,b,d]
   refine zm ?_<;>(simp only[go_sem,qv,b,d]<;>try rfl)
 ·have b:=xI b
  simp only[go_sem,b]
  refine zm ?_<;>(simp only[go_sem,qv,b]<;>try rfl)
attribute [go_sem] KKa KLa WPa WTa WIa WUa qtb
structure Ev where
 id:Int
 worker:Int
 at_:Int
 kind:Int
 from_:Int
 to_:Int
 element:Int
 units:Int
 class_:Int
 gear:Int
 code:Int
abbrev evC(e:Ev):List AV:=[i64 e.id,i64 e.worker,i64 e.at_,i64 e.kind,i64 e.from_,i64 e.to_,i64 e.element,i64 e.units,i64 e.class_,i64 e.gear,i64 e.code]
abbrev evV(e:Ev):AV:= .ag (evC e)
def vU(i:Nat)(k:Int):List (List AV):=if k=3 then [[.ptr i 4],[.ptr i 5],[.ptr i 6],[.ptr i 7],[.ptr i 8],[.ptr i 9]] else if k=4 then [[.ptr i 10]] else []
def Vw(k:Int):Bool:=1==k || (2==k || (3==k || (4==k || (5==k || (6==k || 7==k)))))
theorem c71(h:List Ob)(i:Nat)(e:Ev)(hi:h[i]? =some (.box 75 (evC e))):
  ACalls Tryz.prog 180 [.ptr i 0] h λr h'=>∃L x,h'=h++L/\r= .tup [x,bl (Vw e.kind)]/\∀a:List Ob,a.length=h.length->SlOf (a++L) x 1 (vU i e.kind):=by
 have b:∀M,(h++M)[i]? =some (.box 75 (evC e)):=λM=>zf hi
 refine zj Tryz.f180 [.tmp 2,.tmp 3] 43 rfl rfl rfl rfl rfl rfl (by decide) (⟨_,h,⟨[],.sl 1 _,by simp,rfl,λ_ _=>⟨rfl,λ_=>rfl⟩⟩,.refl⟩) λB=>?_
 simp only[go_sem,hi]
 refine zV rfl [.res,.res,.res] 3 [(6,0,[]),(7,0,[]),(8,0,[]),(9,0,[]),(10,0,[]),(11,0,[]),(12,0,[]),(13,0,[]),(14,0,[]),(15,0,[]),(16,0,[]),(17,0,[]),(18,0,[]),(19,0,[]),(20,0,[]),(21,0,[]),(22,0,[]),(23,0,[]),(26,0,[]),(27,0,[]),(28,0,[]),(0,0,[]),(1,0,[]),(2,0,[]),(3,0,[]),(4,0,[]),(5,0,[]),(24,1,[]),(25,0,[]),(29,2,[]),(30,0,[]),(31,0,[]),(32,0,[])] rfl (by decide) (by decide) ?_
 simp only[go_sem,b]
 refine⟨.tup [if 1=e.kind then AV.v (Value.slice none 0 0) else if 2=e.kind then AV.v (Value.slice none 0 0) else if 3=e.kind then AV.tl (h.length+1) 0 else if 4=e.kind then AV.tl (h.length+2) 0 else if 5=e.kind then AV.v (Value.slice none 0 0) else if 6=e.kind then AV.v (Value.slice none 0 0) else if 7=e.kind then AV.v (Value.slice none 0 0) else AV.v (Value.slice none 0 0),bl (Vw e.kind)],by simp only[go_sem,Vw]<;>rfl,.inl ⟨_,_,rfl,rfl,λa c=>?_⟩⟩
 rw[<-c]
 by_cases k1:e.kind=3
 ·rw[vU,if_pos k1,k1]
  exact⟨by simp only[go_sem],λ_=>by simp only[go_sem]⟩
 ·by_cases k2:e.kind=4
  ·rw[vU,if_neg k1,if_pos k2,k2]
   exact⟨by simp only[go_sem],λ_=>by simp only[go_sem]⟩
  ·rw[vU,if_neg k1,if_neg k2]
   have a1:¬ 3=e.kind:=λh=>k1 h.symm
   have a2:¬ 4=e.kind:=λh=>k2 h.symm
   simp only[if_neg a1,if_neg a2,ite_self]
   exact⟨rfl,λh=>absurd rfl h⟩
def QH(n a:Int):Bool:=decide (n≥0) && decide (n<=a)
theorem c72(n a:Int):xw Tryz.prog 181 [i64 n,i64 a] (bl (QH n a)):=λh=>by
 refine zj Tryz.f181 [.tmp 4] 12 rfl rfl rfl rfl rfl rfl (by decide) (⟨_,_,⟨rfl,rfl⟩,.refl⟩) λB=>?_
 simp only[go_sem]
 refine ways (λe=>?_) (λe=>?_)
 ·have e:=xJ e
  simp only[go_sem,e]
  refine zm ?_<;>(simp only[go_sem,QH,e]<;>try rfl)
 ·have e:=xI e
  simp only[go_sem,e]
  refine zm ?_<;>(simp only[go_sem,QH,e]<;>try rfl)
theorem qxb(n:Int):xw Tryz.prog 195 [i64 n] (bl false):=λh=>by
 refine zj Tryz.f195 [.tmp 2] 6 rfl rfl rfl rfl rfl rfl (by decide) (⟨_,_,⟨rfl,rfl⟩,.refl⟩) λB=>?_
 simp only[go_sem]
 refine zm ?_<;>(simp only[go_sem,bne_self_eq_false]<;>try rfl)
def jKa(a b:Int):Int:=if a<b then -1 else if a>b then 1 else 0
theorem c95(a b:Int):xw Tryz.prog 122 [i64 a,i64 b] (i64 (jKa a b)):=λh=>by
 refine zj Tryz.f122 [.tmp 4] 20 rfl rfl rfl rfl rfl rfl (by decide) (⟨_,_,⟨rfl,rfl⟩,.refl⟩) λB=>?_
 simp only[go_sem]
 refine zg (qxb a _) ?_
 rintro _ _ ⟨rfl,rfl⟩
 simp only[go_sem]
 refine zg (qxb b _) ?_
 rintro _ _ ⟨rfl,rfl⟩
 simp only[go_sem]
 refine ways (λe=>?_) (λe=>?_)
 ·simp only[go_sem]
  refine zm ?_<;>(simp only[go_sem,jKa,of_decide_eq_true e]<;>try rfl)
 ·simp only[go_sem]
  refine ways (λc=>?_) (λc=>?_)
  ·simp only[go_sem]
   refine zm ?_<;>(simp only[go_sem,jKa,of_decide_eq_false e,of_decide_eq_true c]<;>try rfl)
  ·simp only[go_sem]
   refine zm ?_<;>(simp only[go_sem,jKa,of_decide_eq_false e,of_decide_eq_false c]<;>try rfl)
def orI:List Int->Int
 | []=>0
 | n::l=>if n≠0 then n else orI l
theorem xkb(h:List Ob)(x:AV)(a b:Int)(d:SlOf h x 1 [[i64 a],[i64 b]]):ACalls Tryz.prog 176 [x] h λr h'=>r=i64 (orI [a,b])/\h'=h:=by
 have j:=d.at (i:=0) (by simp)
 refine zj Tryz.f176 [.tmp 2] 18 rfl rfl rfl rfl rfl rfl (by decide) (⟨_,_,⟨rfl,rfl⟩,.refl⟩) λB=>?_
 simp only[go_sem,d.rows]
 refine yi 3 (xo (by decide) ?_)
 simp only[go_sem,d.rows,j]
 refine ways (λe=>?_) (λe=>?_)
 ·simp only[go_sem]
  have c:¬ a=0:=by simpa using e
  refine zm ?_<;>(simp only[go_sem,orI,c,ne_eq,not_false_eq_true]<;>try rfl)
 ·have c:a=0:=by simpa using e
  simp only[go_sem]
  refine xo (by decide) ?_
  simp only[go_sem,d.rows,j]
  refine ways (λf=>?_) (λf=>?_)
  ·simp only[go_sem]
   have g:¬ b=0:=by simpa using f
   refine zm ?_<;>(simp only[go_sem,orI,c,g,ne_eq,not_false_eq_true,not_true_eq_false]<;>try rfl)
  ·have g:b=0:=by simpa using f
   simp only[go_sem]
   refine xo (by decide) ?_
   simp only[go_sem]
   refine zm ?_<;>(simp only[go_sem,orI,c,g,ne_eq,not_false_eq_true,not_true_eq_false]<;>try rfl)
def Vaa(a b:Ev):Int:=orI [jKa a.at_ b.at_,jKa a.id b.id]
theorem c89(a b:Ev):xw Tryz.prog 111 [evV a,evV b] (i64 (Vaa a b)):=λh=>by
 refine zj Tryz.f111 [.tmp 4] 17 rfl rfl rfl rfl rfl rfl (by decide) (⟨_,_,⟨rfl,rfl⟩,.refl⟩) λB=>?_
 simp only[go_sem]
 refine zV rfl [.res] 1 [(0,0,[]),(2,0,[]),(5,0,[]),(7,0,[]),(1,0,[]),(3,0,[]),(6,0,[]),(8,0,[]),(4,0,[6,8]),(9,0,[]),(10,0,[]),(11,0,[]),(12,0,[])] rfl (by decide) (by decide) ?_
 simp only[go_sem]
 refine zg (c95 a.at_ b.at_ _) ?_
 rintro _ d ⟨rfl,c⟩
 subst c
 simp only[go_sem]
 refine zg (c95 a.id b.id _) ?_
 rintro _ d ⟨rfl,c⟩
 subst c
 simp only[go_sem]
 refine zg (xkb _ _ (jKa a.at_ b.at_) (jKa a.id b.id) ⟨by simp only[go_sem],λ_=>by simp only[go_sem]⟩) ?_
 rintro _ d ⟨rfl,c⟩
 subst c
 simp only[go_sem]
 refine zm ?_<;>(simp only[go_sem,Vaa]<;>try rfl)
