import Derived.Test.YtjeehgkolepogaaGreatK12
set_option linter.all false
namespace Go.Proofs.YtjeehgkolepogaaGreat.Ax
open Go Go.Proofs
set_option maxRecDepth 100000
attribute [go_sem] v2a
def jFa:List AV->Int
 | [.v (.int _ n)]=>n
 | _=>0
def qQ(n:Int):List AV:=[i64 n]
def Qq(lo hi n:Int):Bool:=decide (n<lo) || decide (n>hi)
def kY(lo hi:Int)(l:List Int):Bool:= !l.any (Qq lo hi)
def c99(h:List Ob)(i j:Nat)(lo hi n:Int)(a:h[i]? =some (.box 3 [i64 lo]))(b:h[j]? =some (.box 3 [i64 hi])):
    ACalls Tryz.prog 136 [i64 n,.ptr i 0,.ptr j 0] h λr h'=>r=bl (Qq lo hi n)/\h'=h:=by
 refine enterQX Tryz.f136 λB=>?_;simp only[go_sem,a];refine ways (λe=>?_) (λe=>?_)
 ·have e:=jv e;simp only[go_sem,e,a,b];exact zm (by simp only[go_sem,Qq,e]<;>try rfl)
 ·have e:=ju e;simp only[go_sem,e,a,b];exact zm (by simp only[go_sem,Qq,e]<;>try rfl)
def c77(h:List Ob)(x:AV)(lo hi:Int)(l:List Int)(b:l.length<9223372036854775808)(c:SlOf h x 1 (l.map qQ)):
    ACalls Tryz.prog 105 [i64 lo,i64 hi,x] h λr h'=>r=bl (kY lo hi l)/\h'=h:=by
 refine enterSX Tryz.f105 λB=>?_;refine zl (c98 _ x 136 _ (l.map qQ) (λr=>Qq lo hi (jFa r)) (by simpa using b) (by simp[qQ]) (c.app _) ?_) ?_
 ·intro row a L;obtain⟨n,_,rfl⟩:=zQ.1 a;refine c99 _ _ _ lo hi n ?_ ?_
  all_goals simp only[go_sem]
 ·rintro _ e ⟨rfl,d⟩;subst d;refine zz ?_;exact zm (by simp only[go_sem,kY,List.any_map,Function.comp_def,qQ,jFa]<;>try rfl)
def yn(p:zL):Bool:=decide (p.1<0) || !rok p
def yha(p:zL)(a:qp p):js Tryz.prog 139 [rat p] (bl (yn p)):=λh=>by
 refine enterSX Tryz.f139 λB=>?_;refine ways (λe=>?_) (λe=>?_)
 ·have e:=jv e;simp only[go_sem,e];refine qx (c27 p a.1 a.2 _) ?_;simp only[go_sem,e];exact zm (by simp only[go_sem,yn,e]<;>try rfl)
 ·have e:=ju e;simp only[go_sem,e];exact zm (by simp only[go_sem,yn,e]<;>try rfl)
def jGa:List AV->zL
 | [.v (.int _ n),.v (.int _ d)]=>(n,d)
 | _=>(0,0)
def wI(l:List zL):Bool:= !l.any yn
def c80(h:List Ob)(x:AV)(l:List zL)(c:∀p∈l,qp p)(f:l.length<9223372036854775808)(g:SlOf h x 2 (l.map qy)):
    ACalls Tryz.prog 108 [x] h λr h'=>r=bl (wI l)/\h'=h:=by
 refine enterSX Tryz.f108 λB=>?_;refine zl (c101 _ x 139 _ (l.map qy) (λr=>yn (jGa r)) (by simpa using f) (λr b=>by obtain⟨p,_,rfl⟩:=zQ.1 b;rfl) g ?_) ?_
 ·intro row a L;obtain⟨p,d,rfl⟩:=zQ.1 a;exact yha p (c p d) _
 ·rintro _ i ⟨rfl,e⟩;subst e;refine zz ?_;exact zm (by simp only[go_sem,wI,List.any_map,Function.comp_def,qy,jGa]<;>try rfl)
abbrev Way:=Int × Int × Int
def yR(w:Way):List AV:=[i64 w.1,i64 w.2.1,i64 w.2.2]
def jHa:List AV->Way
 | [.v (.int _ a),.v (.int _ b),.v (.int _ m)]=>(a,b,m)
 | _=>(0,0,0)
abbrev Elt:=zL × zL
def wO(e:Elt):List AV:=[i64 e.1.1,i64 e.1.2,i64 e.2.1,i64 e.2.2]
def Yb:List AV->Elt
 | [.v (.int _ a),.v (.int _ b),.v (.int _ c),.v (.int _ d)]=>((a,b),(c,d))
 | _=>((0,0),(0,0))
abbrev yH:=Int × Int
structure Setup where
 places:Int
 ways:List Way
 pace:zL
 elements:List Elt
 classes:List zL
 gears:List zL
 allow:Int
 unit:Int
 cap:Int
 paidBreak:Int
 autoAfter:Int
 autoBreak:Int
 dayReg:Int
 dayOver:Int
 weekReg:Int
 nightFrom:Int
 nightTo:Int
 rates:List Int
 diff:Int
 least:Int
 fault:Int
 tiers:List yH
structure SA where
 w:AV
 e:AV
 c:AV
 g:AV
 r:AV
 t:AV
abbrev zN(s:Setup)(a:SA):List AV:=[i64 s.places,a.w,i64 s.pace.1,i64 s.pace.2,a.e,a.c,a.g,i64 s.allow,i64 s.unit,i64 s.cap,i64 s.paidBreak,i64 s.autoAfter,i64 s.autoBreak,
 i64 s.dayReg,i64 s.dayOver,i64 s.weekReg,i64 s.nightFrom,i64 s.nightTo,a.r,i64 s.diff,i64 s.least,i64 s.fault,a.t]
abbrev qE(s:Setup)(a:SA):AV:= .ag (zN s a)
structure SIn (h:List Ob) (s:Setup) (a:SA):Prop where
 w:SlOf h a.w 3 (s.ways.map yR)
 e:SlOf h a.e 4 (s.elements.map wO)
 c:SlOf h a.c 2 (s.classes.map qy)
 g:SlOf h a.g 2 (s.gears.map qy)
 r:SlOf h a.r 1 (s.rates.map qQ)
 t:SlOf h a.t 2 (s.tiers.map qy)
def SIn.app{h:List Ob}{s:Setup}{a:SA}(k:SIn h s a)(L:List Ob):SIn (h++L) s a:=⟨k.w.app L,k.e.app L,k.c.app L,k.g.app L,k.r.app L,k.t.app L⟩
structure SFit (s:Setup):Prop where
 places:Fit s.places
 pace:qp s.pace
 elements:∀e∈s.elements,qp e.1/\qp e.2
 classes:∀p∈s.classes,qp p
 gears:∀p∈s.gears,qp p
 tiers:∀t∈s.tiers,qp t
 nw:s.ways.length<9223372036854775808
 ne:s.elements.length<9223372036854775808
 nc:s.classes.length<9223372036854775808
 ng:s.gears.length<9223372036854775808
 nr:s.rates.length<9223372036854775808
 nt:s.tiers.length<9223372036854775808
def vN(places:Int)(w:Way):Bool:= !kY 0 (wr (places - 1)) [w.1,w.2.1] || w.1==w.2.1 || !kY 1 10000 [w.2.2]
def c76(h:List Ob)(i:Nat)(s:Setup)(a:SA)(w:Way)(c:h[i]? =some (.box 30 (zN s a))):
    ACalls Tryz.prog 104 [.ag (yR w),.ptr i 0] h λr h'=>r=bl (vN s.places w)/\h'=h:=by
 refine enterQX Tryz.f104 λB=>?_;simp only[go_sem,c,yR];have d:∀M,(h++M)[i]? =some (.box 30 (zN s a)):=λM=>zk c;simp only[go_sem,d];refine zl (c77 _ _ 0 _ [w.1,w.2.1] zh ⟨by simp only[go_sem,qQ],λ_=>by simp only[go_sem,qQ]⟩) ?_;rintro _ g ⟨rfl,f⟩;subst f;refine zz ?_;refine ways (λe=>?_) (λe=>?_)
 ·have e:=jv e;simp only[go_sem,e];refine ways (λb=>?_) (λb=>?_)
  ·have b:=jv b;simp only[go_sem,e,b];refine qx (c77 _ _ 1 10000 [w.2.2] zh ⟨by simp only[go_sem,qQ],λ_=>by simp only[go_sem,qQ]⟩) ?_;simp only[go_sem,e,b];exact zm (by simp only[go_sem,vN,e,b]<;>try rfl)
  ·have b:=ju b;simp only[go_sem,e,b];exact zm (by simp only[go_sem,vN,e,b]<;>try rfl)
 ·have e:=ju e;simp only[go_sem,e];exact zm (by simp only[go_sem,vN,e]<;>try rfl)
def xA(s:Setup):Bool:=kY 1 16 [s.places] && decide ((s.ways.length:Int)<=64) && !s.ways.any (vN s.places)
def c47(h:List Ob)(s:Setup)(a:SA)(k:SIn h s a)(f:SFit s):ACalls Tryz.prog 58 [qE s a] h λr h'=>r=bl (xA s)/\h'=h:=by
 refine enterQX Tryz.f58 λB=>?_;simp only[go_sem,k.w.one,k.e.one,k.c.one,k.g.one,k.r.one,k.t.one];refine zl (c77 _ _ 1 16 [s.places] zh ⟨by simp only[go_sem,qQ],λ_=>by simp only[go_sem,qQ]⟩) ?_;rintro _ l ⟨rfl,i⟩;subst i;refine zz ?_;refine ways (λe=>?_) (λe=>?_)
 ·have e:=qZ e;simp only[go_sem,e,(k.app _).w.rows,zc];refine ways (λb=>?_) (λb=>?_)
  ·have b:=qZ b;simp only[go_sem,e,b];refine zl (c78 _ a.w 104 _ (s.ways.map yR) (λr=>vN s.places (jHa r)) (by simpa using f.nw) (λr j=>by obtain⟨p,_,rfl⟩:=zQ.1 j;rfl) (k.app _).w ?_) ?_
   ·intro row d L;obtain⟨p,m,rfl⟩:=zQ.1 d;refine c76 _ _ s a p ?_;simp only[go_sem]
   ·rintro _ l ⟨rfl,i⟩;subst i;refine zz ?_;exact zm (by simp only[go_sem,xA,e,b,List.any_map,Function.comp_def,yR,jHa]<;>try rfl)
  ·have b:=qY b;simp only[go_sem,e,b];exact zm (by simp only[go_sem,xA,e,b]<;>try rfl)
 ·have e:=qY e;simp only[go_sem,e];exact zm (by simp only[go_sem,xA,e]<;>try rfl)
def yS(e:Elt):Bool:= !wI [e.1,e.2]
def c79(e:Elt)(a:qp e.1/\qp e.2):js Tryz.prog 107 [.ag (wO e)] (bl (yS e)):=λh=>by
 refine enterQX Tryz.f107 λB=>?_;simp only[go_sem,wO];refine qI (c80 _ _ [e.1,e.2] (by simpa using a) zh ⟨by simp only[go_sem,qy],λ_=>by simp only[go_sem,qy]⟩) ?_;exact zm (by simp only[go_sem,yS]<;>try rfl)
def jIa(a b c:Int):Int:=if c>(if b>a then b else a) then c else(if b>a then b else a)
def kP(s:Setup):Bool:=wI [s.pace] && wI s.classes && wI s.gears && !s.elements.any yS && decide (jIa s.elements.length s.classes.length s.gears.length<=8)
def c48(h:List Ob)(s:Setup)(a:SA)(k:SIn h s a)(f:SFit s):ACalls Tryz.prog 59 [qE s a] h λr h'=>r=bl (kP s)/\h'=h:=by
 refine enterQX Tryz.f59 λB=>?_;simp only[go_sem,k.w.one,k.e.one,k.c.one,k.g.one,k.r.one,k.t.one];refine zl (c80 _ _ [s.pace] (by simpa using f.pace) zh ⟨by simp only[go_sem,qy],λ_=>by simp only[go_sem,qy]⟩) ?_;rintro _ n ⟨rfl,j⟩;subst j;refine zz ?_;refine ways (λe=>?_) (λe=>?_)
 ·have e:=qZ e;simp only[go_sem,e];refine zl (c80 _ a.c s.classes f.classes f.nc (k.app _).c) ?_;rintro _ n ⟨rfl,j⟩;subst j;simp only[go_sem,e];refine ways (λb=>?_) (λb=>?_)
  ·have b:=qZ b;simp only[go_sem,e,b];refine zl (c80 _ a.g s.gears f.gears f.ng (k.app _).g) ?_;rintro _ n ⟨rfl,j⟩;subst j;simp only[go_sem,e,b];refine ways (λd=>?_) (λd=>?_)
   ·have d:=qZ d;simp only[go_sem,e,b,d];refine zl (c81 _ a.e 107 _ (s.elements.map wO) (λr=>yS (Yb r)) (by simpa using f.ne) (λr o=>by obtain⟨p,_,rfl⟩:=zQ.1 o;rfl) (k.app _).e ?_) ?_
    ·intro row m L;obtain⟨p,q,rfl⟩:=zQ.1 m;exact c79 p (f.elements p q) _
    ·rintro _ n ⟨rfl,j⟩;subst j;have l:(s.elements.map wO).any (λr=>yS (Yb r))=s.elements.any yS:=(by simp only[List.any_map,Function.comp_def,wO,Yb]);simp only[go_sem,l,e,b,d];refine ways (λi=>?_) (λi=>?_)
     ·have i:=qZ i;simp only[go_sem,e,b,d,i,(k.app _).e.rows,(k.app _).c.rows,(k.app _).g.rows,zc];exact zm (by simp only[go_sem,kP,e,b,d,i,jIa]<;>try rfl)
     ·have i:=qY i;simp only[go_sem,e,b,d,i];exact zm (by simp only[go_sem,kP,e,b,d,i]<;>try rfl)
   ·have d:=qY d;simp only[go_sem,e,b,d];exact zm (by simp only[go_sem,kP,e,b,d]<;>try rfl)
  ·have b:=qY b;simp only[go_sem,e,b];exact zm (by simp only[go_sem,kP,e,b]<;>try rfl)
 ·have e:=qY e;simp only[go_sem,e];exact zm (by simp only[go_sem,kP,e]<;>try rfl)
def xY(s:Setup):Bool:=kY 0 100 [s.allow] && kY 1 3600 [s.unit] && kY 60 57600 [s.cap] && kY 0 86400 [s.paidBreak,s.autoAfter,s.autoBreak,s.nightFrom,s.nightTo,s.fault,s.dayOver] && kY 0 s.dayOver [s.dayReg] && kY 0 604800 [s.weekReg]
def c49(h:List Ob)(s:Setup)(a:SA)(k:SIn h s a)(f:SFit s):ACalls Tryz.prog 60 [qE s a] h λr h'=>r=bl (xY s)/\h'=h:=by
 refine enterQX Tryz.f60 λB=>?_;simp only[go_sem,k.w.one,k.e.one,k.c.one,k.g.one,k.r.one,k.t.one];refine zl (c77 _ _ 0 100 [s.allow] zh ⟨by simp only[go_sem,qQ],λ_=>by simp only[go_sem,qQ]⟩) ?_;rintro _ n ⟨rfl,m⟩;subst m;refine zz ?_;refine ways (λb=>?_) (λb=>?_)
 ·have b:=qZ b;simp only[go_sem,b];refine zl (c77 _ _ 1 3600 [s.unit] zh ⟨by simp only[go_sem,qQ],λ_=>by simp only[go_sem,qQ]⟩) ?_;rintro _ n ⟨rfl,m⟩;subst m;simp only[go_sem,b];refine ways (λd=>?_) (λd=>?_)
  ·have d:=qZ d;simp only[go_sem,b,d];refine zl (c77 _ _ 60 57600 [s.cap] zh ⟨by simp only[go_sem,qQ],λ_=>by simp only[go_sem,qQ]⟩) ?_;rintro _ n ⟨rfl,m⟩;subst m;simp only[go_sem,b,d];refine ways (λi=>?_) (λi=>?_)
   ·have i:=qZ i;simp only[go_sem,b,d,i];refine zl (c77 _ _ 0 86400 [s.paidBreak,s.autoAfter,s.autoBreak,s.nightFrom,s.nightTo,s.fault,s.dayOver] zh ⟨by simp only[go_sem,qQ],λ_=>by simp only[go_sem,qQ]⟩) ?_;rintro _ n ⟨rfl,m⟩;subst m;simp only[go_sem,b,d,i];refine ways (λj=>?_) (λj=>?_)
    ·have j:=qZ j;simp only[go_sem,b,d,i,j];refine zl (c77 _ _ 0 _ [s.dayReg] zh ⟨by simp only[go_sem,qQ],λ_=>by simp only[go_sem,qQ]⟩) ?_;rintro _ n ⟨rfl,m⟩;subst m;simp only[go_sem,b,d,i,j];refine ways (λl=>?_) (λl=>?_)
     ·have l:=qZ l;simp only[go_sem,b,d,i,j,l];refine qx (c77 _ _ 0 604800 [s.weekReg] zh ⟨by simp only[go_sem,qQ],λ_=>by simp only[go_sem,qQ]⟩) ?_;simp only[go_sem,b,d,i,j,l];exact zm (by simp only[go_sem,xY,b,d,i,j,l]<;>try rfl)
     ·have l:=qY l;simp only[go_sem,b,d,i,j,l];exact zm (by simp only[go_sem,xY,b,d,i,j,l]<;>try rfl)
    ·have j:=qY j;simp only[go_sem,b,d,i,j];exact zm (by simp only[go_sem,xY,b,d,i,j]<;>try rfl)
   ·have i:=qY i;simp only[go_sem,b,d,i];exact zm (by simp only[go_sem,xY,b,d,i]<;>try rfl)
  ·have d:=qY d;simp only[go_sem,b,d];exact zm (by simp only[go_sem,xY,b,d]<;>try rfl)
 ·have b:=qY b;simp only[go_sem,b];exact zm (by simp only[go_sem,xY,b]<;>try rfl)
def vA(last:Int)(t:yH):Bool:=decide (t.1<=last) || decide (t.1>1000) || !kY 0 100000 [t.2]
def c82(h:List Ob)(i:Nat)(last:Int)(t:yH)(c:h[i]? =some (.box 3 [i64 last])):
    ACalls Tryz.prog 110 [.ag (qy t),.ptr i 0] h λr h'=>r=bl (vA last t)/\h'=h.set i (.box 3 [i64 t.1]):=by
 have d:∀M,(h++M)[i]? =some (.box 3 [i64 last]):=λM=>zk c;have f:∀M o,(h++M).set i o=h.set i o++M:=λM o=>qL c
 have fin:∀(T:Env) (M:List Ob) (b:Bool),T 3=bl b->b=vA last t->Jy Tryz.prog [.tmp 3] h (λr h'=>r=bl (vA last t)/\h'=h.set i (.box 3 [i64 t.1])) .ret T (h.set i (.box 3 [i64 t.1])++M):=λT M b j g=>
  ⟨bl b,by simp only[go_sem,j],.inr ⟨_,M,rfl,zh,rfl,KeepLt.refl.set rfl rfl,by rw[g],rfl⟩⟩
 refine enterQX Tryz.f110 (λB=>?_) (⟨_,_,⟨rfl,rfl⟩,qX c rfl⟩);simp only[go_sem,c,qy,d];refine ways (λe=>?_) (λe=>?_)
 ·have e:=jv e;simp only[go_sem,e];refine ways (λa=>?_) (λa=>?_)
  ·have a:=jv a;simp only[go_sem,e,a];refine qx (c77 _ _ 0 100000 [t.2] zh ⟨by simp only[go_sem,qQ],λ_=>by simp only[go_sem,qQ]⟩) ?_;simp only[go_sem,e,a,d,f];refine fin _ _ (!kY 0 100000 [t.2]) ?_ ?_
   ·simp only[go_sem]
   ·simp only[vA,e,a,Bool.false_or]
  ·have a:=ju a;simp only[go_sem,e,a,d,f];refine fin _ _ true ?_ ?_
   ·simp only[go_sem]
   ·simp only[vA,e,a,Bool.false_or,Bool.true_or]
 ·have e:=ju e;simp only[go_sem,e,d,f];refine fin _ _ true ?_ ?_
  ·simp only[go_sem]
  ·simp only[vA,e,Bool.true_or]
def jJ:Int->List yH->Bool
 | _,[]=>false
 | last,t::l=>vA last t || jJ t.1 l
def c104(h:List Ob)(x:AV)(i:Nat)(last:Int)(l:List yH)(I:l.length<9223372036854775808)(E:∀o,SlOf (h.set i o) x 2 (l.map qy))(d:h[i]? =some (.box 3 [i64 last])):
    ACalls Tryz.prog 141 [x,.fn (.func 110) [] [.ptr i 0]] h λr h'=>∃n m,r=i64 n/\h'=h.set i (.box 3 [i64 m])/\decide (n≥0)=jJ last l:=by
 have a:h.set i (.box 3 [i64 last])=h:=by
  apply qz;intro j;by_cases D:j=i
  ·subst D;rw[zt d,d]
  ·rw[zf (λe=>D e.symm)]
 have p:=E (.box 3 [i64 last]);rw[a] at p;refine enterQX Tryz.f141 (λB=>?_) (⟨_,_,⟨if jJ last l then 0 else -1,last,rfl,rfl,by split<;>simp_all⟩,qX d rfl⟩);simp only[go_sem,p.rows,zc]
 refine wp_loop_a ze (λn T h'=>∃(k:Nat) (f:Int),h'=h.set i (.box 3 [i64 f])/\T 0=x/\T 1= .fn (.func 110) [] [.ptr i 0]/\T 7=i64 l.length/\T 8=i64 k/\k<=l.length/\jJ last l=jJ f (l.drop k)/\n=l.length - k) l.length
  ⟨0,last,a.symm,zo,zo,zo,by(simp only[go_sem]<;>rfl),zb,rfl,rfl⟩ ?_
 rintro n T h' ⟨k,f,rfl,t0,t1,w,t,G,h0,rfl⟩;have C:=zt (b:=Ob.box 3 [i64 f]) d;have q:∀o,(h.set i (.box 3 [i64 f])).set i o=h.set i o:=λo=>qB ..;have s:=E (.box 3 [i64 f]);simp only[go_sem,w,t];refine ways (λy=>?_) (λy=>?_)
 ·have c:k<l.length:=by simpa using y
  have z:=s.at (i:=k) (by simpa using c);have g:(l.map qy)[k]? =some (qy l[k]):=by simp[c]
  have v:(k:Int)<l.length:=zb;have A:=c82 (h.set i (.box 3 [i64 f])) i f l[k] C;rw[q] at A;simp only[qy] at g A;rw[zP c] at h0;simp only[go_sem,z,s.rows,g,v,t0,t1,w,t,Int.toNat_natCast,zd,zc];refine zl A ?_;rintro _ H ⟨rfl,F⟩;subst F;refine zz ?_;refine ways (λu=>?_) (λu=>?_)
  ·simp only[go_sem,t];exact⟨i64 k,zo,.inl ⟨k,l[k].1,rfl,rfl,by rw[h0];simp[jJ,u]⟩⟩
  ·simp only[go_sem,t,jM (show k<9223372036854775807 by omega)];refine⟨l.length - (k+1),zb,k+1,l[k].1,rfl,t0,t1,w,rfl,zb,?_,rfl⟩;rw[h0];simp[jJ,u]
 ·have c:k=l.length:=by
   have:¬ (k:Int)<l.length:=(by simpa using y);omega
  rw[c,List.drop_length] at h0;refine zz ?_;exact⟨i64 (-1),zo,.inl ⟨-1,f,rfl,rfl,by rw[h0];rfl⟩⟩
def c83(h:List Ob)(x:AV)(i:Nat)(last:Int)(l:List yH)(f:l.length<9223372036854775808)(g:∀o,SlOf (h.set i o) x 2 (l.map qy))(b:h[i]? =some (.box 3 [i64 last])):
    ACalls Tryz.prog 111 [x,.fn (.func 110) [] [.ptr i 0]] h λr h'=>r=bl (jJ last l)/\∃a,h'=h.set i (.box 3 [i64 a]):=by
 refine enterSX Tryz.f111 (λB=>?_) (⟨_,_,⟨rfl,last,rfl⟩,qX b rfl⟩);refine zl (c104 h x i last l f g b) ?_;rintro _ j ⟨n,d,rfl,e,c⟩;subst e;simp only[go_sem,c];exact⟨bl (jJ last l),zo,.inl ⟨rfl,d,rfl⟩⟩
def kQ(s:Setup):Bool:=decide ((s.rates.length:Int)>0) && decide ((s.rates.length:Int)<=16) && kY 0 100000 s.rates && kY 0 100000 [s.diff,s.least] && decide ((s.tiers.length:Int)<=8) && !jJ (-1) s.tiers
def c50(h:List Ob)(s:Setup)(a:SA)(k:SIn h s a)(f:SFit s):ACalls Tryz.prog 61 [qE s a] h λr h'=>r=bl (kQ s)/\h'=h:=by
 refine enterQX Tryz.f61 λB=>?_;simp only[go_sem,k.w.one,k.e.one,k.c.one,k.g.one,k.r.one,k.t.one,(k.app _).r.rows,zc];refine ways (λb=>?_) (λb=>?_)
 ·have b:=qZ b;simp only[go_sem,b,(k.app _).r.rows,(k.app _).t.rows,zc];refine ways (λd=>?_) (λd=>?_)
  ·have d:=qZ d;simp only[go_sem,b,d,(k.app _).r.rows,(k.app _).t.rows,zc];refine zl (c77 _ a.r 0 100000 s.rates f.nr (k.app _).r) ?_;rintro _ n ⟨rfl,m⟩;subst m;simp only[go_sem,b,d,(k.app _).r.rows,(k.app _).t.rows,zc];refine ways (λi=>?_) (λi=>?_)
   ·have i:=qZ i;simp only[go_sem,b,d,i,(k.app _).r.rows,(k.app _).t.rows,zc];refine zl (c77 _ _ 0 100000 [s.diff,s.least] zh ⟨by simp only[go_sem,qQ],λ_=>by simp only[go_sem,qQ]⟩) ?_;rintro _ n ⟨rfl,m⟩;subst m;simp only[go_sem,b,d,i,(k.app _).r.rows,(k.app _).t.rows,zc];refine ways (λj=>?_) (λj=>?_)
    ·have j:=qZ j;simp only[go_sem,b,d,i,j,(k.app _).r.rows,(k.app _).t.rows,zc];refine ways (λl=>?_) (λl=>?_)
     ·have l:=qZ l;simp only[go_sem,b,d,i,j,l,(k.app _).r.rows,(k.app _).t.rows,zc];refine zl (c83 _ a.t _ (-1) s.tiers f.nt (λo=>by simp only[go_sem];exact(k.app _).t) zo) ?_;rintro _ n ⟨rfl,p,m⟩;subst m;simp only[go_sem,b,d,i,j,l,(k.app _).r.rows,(k.app _).t.rows,zc];exact zm (by simp only[go_sem,kQ,b,d,i,j,l,(k.app _).r.rows,(k.app _).t.rows,zc]<;>try rfl)
     ·have l:=qY l;simp only[go_sem,b,d,i,j,l];exact zm (by simp only[go_sem,kQ,b,d,i,j,l]<;>try rfl)
    ·have j:=qY j;simp only[go_sem,b,d,i,j];exact zm (by simp only[go_sem,kQ,b,d,i,j]<;>try rfl)
   ·have i:=qY i;simp only[go_sem,b,d,i];exact zm (by simp only[go_sem,kQ,b,d,i]<;>try rfl)
  ·have d:=qY d;simp only[go_sem,b,d];exact zm (by simp only[go_sem,kQ,b,d]<;>try rfl)
 ·have b:=qY b;simp only[go_sem,b];exact zm (by simp only[go_sem,kQ,b]<;>try rfl)
def zX(s:Setup):Bool:=xA s && kP s && xY s && kQ s
def c16(h:List Ob)(s:Setup)(a:SA)(k:SIn h s a)(f:SFit s):ACalls Tryz.prog 24 [qE s a] h λr h'=>r=bl (zX s)/\h'=h:=by
 refine enterQX Tryz.f24 λB=>?_;simp only[go_sem,k.w.one,k.e.one,k.c.one,k.g.one,k.r.one,k.t.one];refine zl (c47 _ s a (k.app _) f) ?_;rintro _ l ⟨rfl,j⟩;subst j;refine zz ?_;refine ways (λb=>?_) (λb=>?_)
 ·have b:=qZ b;simp only[go_sem,b];refine zl (c48 _ s a (k.app _) f) ?_;rintro _ l ⟨rfl,j⟩;subst j;simp only[go_sem,b];refine ways (λd=>?_) (λd=>?_)
  ·have d:=qZ d;simp only[go_sem,b,d];refine zl (c49 _ s a (k.app _) f) ?_;rintro _ l ⟨rfl,j⟩;subst j;simp only[go_sem,b,d];refine ways (λi=>?_) (λi=>?_)
   ·have i:=qZ i;simp only[go_sem,b,d,i];refine qx (c50 _ s a (k.app _) f) ?_;simp only[go_sem,b,d,i];exact zm (by simp only[go_sem,zX,b,d,i]<;>try rfl)
   ·have i:=qY i;simp only[go_sem,b,d,i];exact zm (by simp only[go_sem,zX,b,d,i]<;>try rfl)
  ·have d:=qY d;simp only[go_sem,b,d];exact zm (by simp only[go_sem,zX,b,d]<;>try rfl)
 ·have b:=qY b;simp only[go_sem,b];exact zm (by simp only[go_sem,zX,b]<;>try rfl)
attribute [go_sem] xUa xVa kYa kZa k0a k1a woa
structure Ev where
 id:Int
 worker:Int
 at_:Int
 kind:Int
 from_:Int
 to_:Int
 element:Int
 units:Int
 class_:Int
 gear:Int
 code:Int
abbrev evC(e:Ev):List AV:=[i64 e.id,i64 e.worker,i64 e.at_,i64 e.kind,i64 e.from_,i64 e.to_,i64 e.element,i64 e.units,i64 e.class_,i64 e.gear,i64 e.code]
abbrev evV(e:Ev):AV:= .ag (evC e)
def xZ(i:Nat)(k:Int):List (List AV):=if k=3 then [[.ptr i 4],[.ptr i 5],[.ptr i 6],[.ptr i 7],[.ptr i 8],[.ptr i 9]] else if k=4 then [[.ptr i 10]] else []
def ZL(k:Int):Bool:=1==k || (2==k || (3==k || (4==k || (5==k || (6==k || 7==k)))))
def c71(h:List Ob)(i:Nat)(e:Ev)(hi:h[i]? =some (.box 55 (evC e))):
    ACalls Tryz.prog 130 [.ptr i 0] h λr h'=>∃L x,h'=h++L/\r= .tup [x,bl (ZL e.kind)]/\∀a:List Ob,a.length=h.length->SlOf (a++L) x 1 (xZ i e.kind):=by
 have b:∀M,(h++M)[i]? =some (.box 55 (evC e)):=λM=>zk hi;refine enterQX Tryz.f130 (λB=>?_) (⟨_,h,⟨[],.sl 1 _,zh,rfl,λ_ _=>⟨rfl,λ_=>rfl⟩⟩,.refl⟩);simp only[go_sem,hi];refine zZ [.res,.res,.res] 3 (oF [6,7,8,9,10,11,12,13,14,15,16,17,18,19,20,21,22,23,26,27,28,0,1,2,3,4,5] ((24,1,[])::(25,0,[])::(29,2,[])::oF [30,31,32] ([]))) ?_;simp only[go_sem,b];refine⟨.tup [if 1=e.kind then AV.v (Value.slice none 0 0) else if 2=e.kind then AV.v (Value.slice none 0 0) else if 3=e.kind then AV.tl (h.length+1) 0 else if 4=e.kind then AV.tl (h.length+2) 0 else if 5=e.kind then AV.v (Value.slice none 0 0) else if 6=e.kind then AV.v (Value.slice none 0 0) else if 7=e.kind then AV.v (Value.slice none 0 0) else AV.v (Value.slice none 0 0),bl (ZL e.kind)],by simp only[go_sem,ZL]<;>rfl,.inl ⟨_,_,rfl,rfl,λa c=>?_⟩⟩;rw[<-c];by_cases k1:e.kind=3
 ·rw[xZ,if_pos k1,k1];exact⟨zo,λ_=>zo⟩
 ·by_cases k2:e.kind=4
  ·rw[xZ,if_neg k1,if_pos k2,k2];exact⟨zo,λ_=>zo⟩
  ·rw[xZ,if_neg k1,if_neg k2];have a1:¬ 3=e.kind:=λh=>k1 h.symm;have a2:¬ 4=e.kind:=λh=>k2 h.symm;simp only[if_neg a1,if_neg a2,ite_self];exact⟨rfl,λh=>absurd rfl h⟩
def vW(n a:Int):Bool:=decide (n≥0) && decide (n<=a)
def c72(n a:Int):js Tryz.prog 131 [i64 n,i64 a] (bl (vW n a)):=λh=>by
 refine enterSX Tryz.f131 λB=>?_;refine ways (λe=>?_) (λe=>?_)
 ·have e:=qZ e;simp only[go_sem,e];exact zm (by simp only[go_sem,vW,e]<;>try rfl)
 ·have e:=qY e;simp only[go_sem,e];exact zm (by simp only[go_sem,vW,e]<;>try rfl)
def wua(n:Int):js Tryz.prog 147 [i64 n] (bl false):=λh=>by
 refine enterSX Tryz.f147 λB=>?_;exact zm (by simp only[go_sem,bne_self_eq_false]<;>try rfl)
def KU(a b:Int):Int:=if a<b then -1 else if a>b then 1 else 0
def c95(a b:Int):js Tryz.prog 124 [i64 a,i64 b] (i64 (KU a b)):=λh=>by
 refine enterSX Tryz.f124 λB=>?_;refine qI (wua a _) ?_;refine qI (wua b _) ?_;refine ways (λe=>?_) (λe=>?_)
 ·refine zz ?_;exact zm (by simp only[go_sem,KU,of_decide_eq_true e]<;>try rfl)
 ·refine zz ?_;refine ways (λc=>?_) (λc=>?_)
  ·refine zz ?_;exact zm (by simp only[go_sem,KU,of_decide_eq_false e,of_decide_eq_true c]<;>try rfl)
  ·refine zz ?_;exact zm (by simp only[go_sem,KU,of_decide_eq_false e,of_decide_eq_false c]<;>try rfl)
def orI:List Int->Int
 | []=>0
 | n::l=>if n≠0 then n else orI l
def yia(h:List Ob)(x:AV)(a b:Int)(c:SlOf h x 1 [[i64 a],[i64 b]]):ACalls Tryz.prog 129 [x] h λr h'=>r=i64 (orI [a,b])/\h'=h:=by
 have j:=c.at (i:=0) zh;refine enterQX Tryz.f129 λB=>?_;simp only[go_sem,c.rows];refine vl 3 (jI ze ?_);simp only[go_sem,c.rows,j];refine ways (λe=>?_) (λe=>?_)
 ·refine zz ?_;have d:¬ a=0:=by simpa using e
  exact zm (by simp only[go_sem,orI,d,ne_eq,not_false_eq_true]<;>try rfl)
 ·have d:a=0:=by simpa using e
  refine zz ?_;refine jI ze ?_;simp only[go_sem,c.rows,j];refine ways (λg=>?_) (λg=>?_)
  ·refine zz ?_;have f:¬ b=0:=(by simpa using g);exact zm (by simp only[go_sem,orI,d,f,ne_eq,not_false_eq_true,not_true_eq_false]<;>try rfl)
  ·have f:b=0:=(by simpa using g);refine zz ?_;refine jI ze ?_;refine zz ?_;exact zm (by simp only[go_sem,orI,d,f,ne_eq,not_false_eq_true,not_true_eq_false]<;>try rfl)
def kja(a b:Ev):Int:=orI [KU a.at_ b.at_,KU a.id b.id]
def c89(a b:Ev):js Tryz.prog 95 [evV a,evV b] (i64 (kja a b)):=λh=>by
 refine enterSX Tryz.f95 λB=>?_;refine jCa [.res] 1 (oF [0,2,5,7,1,3,6,8] ((4,0,[6,8])::oF [9,10,11,12] ([]))) ?_;refine zl (c95 a.at_ b.at_ _) ?_;rintro _ d ⟨rfl,c⟩;subst c;refine zz ?_;refine zl (c95 a.id b.id _) ?_;rintro _ d ⟨rfl,c⟩;subst c;refine zz ?_;refine qI (yia _ _ (KU a.at_ b.at_) (KU a.id b.id) ⟨zo,λ_=>zo⟩) ?_;exact zm (by simp only[go_sem,kja]<;>try rfl)
