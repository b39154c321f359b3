import Derived.Test.YtjeehgkolepogaaGreatProg
import Derived.Test.YtjeehgkolepogaaGreatK10
set_option linter.all false
namespace Go.Proofs.YtjeehgkolepogaaGreat.Ax
open Go Go.Proofs
set_option maxRecDepth 100000
def ty3:zF Tryz.prog 3=⟨true,false,1,8,some [.int .i64 0],true,.int .i64⟩:=id rfl
def ty4:zF Tryz.prog 4=⟨true,false,1,1,some [.bool false],true,.bool⟩:=id rfl
def ty5:zF Tryz.prog 5=⟨true,false,1,1,some [.int .u8 0],true,.int .u8⟩:=id rfl
def ty9:zF Tryz.prog 9=⟨true,false,1,16,some [.string ⟨#[]⟩],true,.str⟩:=id rfl
def xRa:zF Tryz.prog 22=⟨true,false,1,24,some [.slice none 0 0],true,.slice 125⟩:=id rfl
def xSa:zF Tryz.prog 24=⟨true,true,2,16,some [.int .i64 0,.int .i64 0],false,.struct [(0,3),(1,3)]⟩:=id rfl
def xTa:zF Tryz.prog 25=⟨true,false,1,24,some [.slice none 0 0],true,.slice 82⟩:=id rfl
def qMa:zF Tryz.prog 26=⟨true,false,1,24,some [.slice none 0 0],true,.slice 24⟩:=id rfl
def zBa:zF Tryz.prog 27=⟨true,false,1,24,some [.slice none 0 0],true,.slice 3⟩:=id rfl
def qNa:zF Tryz.prog 28=⟨true,false,1,24,some [.slice none 0 0],true,.slice 79⟩:=id rfl
def v2a:zF Tryz.prog 30=⟨true,true,23,280,some [.int .i64 0,.slice none 0 0,.int .i64 0,.int .i64 0,.slice none 0 0,.slice none 0 0,.slice none 0 0,.int .i64 0,.int .i64 0,.int .i64 0,.int .i64 0,.int .i64 0,.int .i64 0,.int .i64 0,.int .i64 0,.int .i64 0,.int .i64 0,.int .i64 0,.slice none 0 0,.int .i64 0,.int .i64 0,.int .i64 0,.slice none 0 0],false,.struct [(0,3),(1,22),(2,24),(4,25),(5,26),(6,26),(7,3),(8,3),(9,3),(10,3),(11,3),(12,3),(13,3),(14,3),(15,3),(16,3),(17,3),(18,27),(19,3),(20,3),(21,3),(22,28)]⟩:=id rfl
def xUa:zF Tryz.prog 31=⟨true,false,1,24,some [.slice none 0 0],true,.slice 55⟩:=id rfl
def vha:zF Tryz.prog 34=⟨true,false,1,8,some [.int .i64 0],true,.int .i64⟩:=id rfl
def v3a:zF Tryz.prog 38=⟨true,true,6,48,some [.int .i64 0,.int .i64 0,.int .i64 0,.int .i64 0,.int .i64 0,.int .i64 0],false,.struct [(0,24),(2,3),(3,24),(5,34)]⟩:=id rfl
def v4a:zF Tryz.prog 42=⟨true,false,1,24,some [.slice none 0 0],true,.slice 62⟩:=id rfl
def v5a:zF Tryz.prog 43=⟨true,false,1,24,some [.slice none 0 0],true,.slice 84⟩:=id rfl
def v6a:zF Tryz.prog 49=⟨true,false,1,24,some [.slice none 0 0],true,.slice 86⟩:=id rfl
def xVa:zF Tryz.prog 55=⟨true,true,11,88,some [.int .i64 0,.int .i64 0,.int .i64 0,.int .i64 0,.int .i64 0,.int .i64 0,.int .i64 0,.int .i64 0,.int .i64 0,.int .i64 0,.int .i64 0],false,.struct [(0,3),(1,3),(2,3),(3,3),(4,3),(5,3),(6,3),(7,3),(8,3),(9,3),(10,3)]⟩:=id rfl
def v7a:zF Tryz.prog 60=⟨true,true,3,24,some [.int .i64 0,.int .i64 0,.int .i64 0],false,.struct [(0,24),(2,34)]⟩:=id rfl
def v8a:zF Tryz.prog 62=⟨true,true,5,40,some [.int .i64 0,.int .i64 0,.int .i64 0,.int .i64 0,.int .i64 0],false,.struct [(0,3),(1,3),(2,3),(3,3),(4,3)]⟩:=id rfl
def w3a:zF Tryz.prog 65=⟨true,false,1,8,some [.nilFunc],true,.other⟩:=id rfl
def w4a:zF Tryz.prog 72=⟨true,false,1,8,some [.nilFunc],true,.other⟩:=id rfl
def w5a:zF Tryz.prog 77=⟨true,false,1,8,some [.nilFunc],true,.other⟩:=id rfl
def xWa:zF Tryz.prog 79=⟨true,true,2,16,some [.int .i64 0,.int .i64 0],false,.struct [(0,3),(1,3)]⟩:=id rfl
def via:zF Tryz.prog 82=⟨true,true,4,32,some [.int .i64 0,.int .i64 0,.int .i64 0,.int .i64 0],false,.struct [(0,24),(2,24)]⟩:=id rfl
def v9a:zF Tryz.prog 84=⟨true,true,2,16,some [.int .i64 0,.int .i64 0],false,.struct [(0,3),(1,3)]⟩:=id rfl
def waa:zF Tryz.prog 86=⟨true,true,2,16,some [.int .i64 0,.int .i64 0],false,.struct [(0,3),(1,3)]⟩:=id rfl
def wba:zF Tryz.prog 88=⟨true,false,1,8,some [.pointer none],true,.ptr 91⟩:=id rfl
def wca:zF Tryz.prog 89=⟨true,false,1,8,some [.pointer none],true,.ptr 117⟩:=id rfl
def wda:zF Tryz.prog 91=⟨true,true,26,336,some [.int .i64 0,.slice none 0 0,.int .i64 0,.int .i64 0,.slice none 0 0,.slice none 0 0,.slice none 0 0,.int .i64 0,.int .i64 0,.int .i64 0,.int .i64 0,.int .i64 0,.int .i64 0,.int .i64 0,.int .i64 0,.int .i64 0,.int .i64 0,.int .i64 0,.slice none 0 0,.int .i64 0,.int .i64 0,.int .i64 0,.slice none 0 0,.pointer none,.slice none 0 0,.slice none 0 0],false,.struct [(0,30),(23,89),(24,42),(25,43)]⟩:=id rfl
def kUa:zF Tryz.prog 100=⟨true,false,1,8,some [.nilFunc],true,.other⟩:=id rfl
def wea:zF Tryz.prog 109=⟨true,false,1,8,some [.nilFunc],true,.other⟩:=id rfl
def kVa:zF Tryz.prog 117=⟨true,true,12,112,some [.int .i64 0,.int .i64 0,.int .i64 0,.int .i64 0,.int .i64 0,.int .i64 0,.int .i64 0,.int .i64 0,.int .i64 0,.int .i64 0,.int .i64 0,.slice none 0 0],false,.struct [(0,55),(11,31)]⟩:=id rfl
def wfa:zF Tryz.prog 119=⟨true,false,1,8,some [.nilFunc],true,.other⟩:=id rfl
def qOa:zF Tryz.prog 125=⟨true,true,3,24,some [.int .i64 0,.int .i64 0,.int .i64 0],false,.struct [(0,3),(1,3),(2,3)]⟩:=id rfl
def wga:zF Tryz.prog 127=⟨true,false,1,8,some [.nilFunc],true,.other⟩:=id rfl
def wha:zF Tryz.prog 130=⟨true,false,1,8,some [.nilFunc],true,.other⟩:=id rfl
def wia:zF Tryz.prog 132=⟨true,false,1,8,some [.nilFunc],true,.other⟩:=id rfl
def kWa:zF Tryz.prog 134=⟨true,false,1,24,some [.slice none 0 0],true,.slice 27⟩:=id rfl
def kXa:zF Tryz.prog 140=⟨true,false,1,8,some [.nilFunc],true,.other⟩:=id rfl
def kYa:zF Tryz.prog 144=⟨true,false,1,24,some [.slice none 0 0],true,.slice 149⟩:=id rfl
def kZa:zF Tryz.prog 147=⟨true,false,1,8,some [.pointer none],true,.ptr 55⟩:=id rfl
def k0a:zF Tryz.prog 149=⟨true,false,1,8,some [.pointer none],true,.ptr 3⟩:=id rfl
def wja:zF Tryz.prog 154=⟨true,false,1,8,some [.nilFunc],true,.other⟩:=id rfl
def qPa:zF Tryz.prog 164=⟨true,false,1,8,some [.int .u64 0],true,.int .u64⟩:=id rfl
def k1a:zF Tryz.prog 169=⟨true,false,1,8,some [.map none],true,.mapk 3 144⟩:=id rfl
def wka:zF Tryz.prog 176=⟨true,false,1,8,some [.int .i64 0],true,.int .i64⟩:=id rfl
def wla:zF Tryz.prog 184=⟨true,false,1,4,some [.int .u32 0],true,.int .u32⟩:=id rfl
def wma:zF Tryz.prog 186=⟨true,false,1,8,some [.int .u64 0],true,.int .u64⟩:=id rfl
def wna:zF Tryz.prog 192=⟨true,false,1,8,some [.int .u64 0],true,.int .u64⟩:=id rfl
def vja:j5 Tryz.prog 24=true:=by unfold j5;rw[Tryz.eqGuardType24,Tryz.stoodInHeld24];rfl
def woa:j5 Tryz.prog 55=true:=by unfold j5;rw[Tryz.eqGuardType55,Tryz.stoodInHeld55];rfl
def wpa:j5 Tryz.prog 62=true:=by unfold j5;rw[Tryz.eqGuardType62,Tryz.stoodInHeld62];rfl
def wqa:j5 Tryz.prog 84=true:=by unfold j5;rw[Tryz.eqGuardType84,Tryz.stoodInHeld84];rfl
def wra:j5 Tryz.prog 86=true:=by unfold j5;rw[Tryz.eqGuardType86,Tryz.stoodInHeld86];rfl
end Go.Proofs.YtjeehgkolepogaaGreat.Ax
namespace Go.Proofs.YtjeehgkolepogaaGreat.Ax
open Go Go.RowKit
section
variable {P:Program} {N:Nat} {B:Bs} {T:Env} {h:List Ob} {Q Q':xk}
def XY{b:Bool}{p q a c:Prop}(d:p->a)(f:q->c)(k: @Q5 b ⟨p⟩ ⟨q⟩): @Q5 b ⟨a⟩ ⟨c⟩:=⟨λe=>d (k.1 e),λe=>f (k.2 e)⟩
def XZ{o:Oper}{K K':Env->List Ob->Prop}(a:∀T h,K T h->K' T h)(k:Q6 P T h o K):Q6 P T h o K':=by
 unfold Q6 at k⊢;cases c:qw o.op with
 | some q=>
   rw[c] at k;simp only[XP] at k⊢;split at k
   ·exact ACalls.mono k λr h'=>a _ _
   ·split at k
    ·rename_i b;simp only[if_pos b];exact Vx k λh'=>a _ _
    ·exact k.elim
   ·exact k.elim
 | none=>
   rw[c] at k;simp only[JB] at k⊢;split at k
   ·exact a _ _ k
   ·exact k.elim
def VS{ops:Array Oper}{K K':Env->List Ob->Prop}(c:∀T h,K T h->K' T h):∀(l:List Oper) {T:Env} {h:List Ob},wpR P ops K l T h->wpR P ops K' l T h
 | [],_,_,k=>c _ _ k
 | o::r,T,h,k=>by
   have a:∀T h,wpR P ops K r T h->wpR P ops K' r T h:=λT h=>VS c r;unfold wpR at k⊢;cases d:o.guard with
   | none=>simp only[d] at k ⊢;exact XZ a k
   | some q=>
     obtain⟨j,b⟩:=q;simp only[d] at k⊢;unfold kN at k⊢;split at k
     ·exact XY (XZ a) (a _ _) k
     ·exact a _ _ k
     ·exact k.elim
def wg{c:Code}(a:∀e T h,Q e T h->Q' e T h)(k: @w8 P N B ⟨(c,Q)⟩ T h): @w8 P N B ⟨(c,Q')⟩ T h:=AWp.mono k a
def jKa:∀(c:Code) {Q Q':xk} {T:Env} {h:List Ob},(∀e T h,Q e T h->Q' e T h)->wpC P N B c Q T h->wpC P N B c Q' T h:=by
 intro c
 induction c with
 | skip=>intro Q Q' T h g k;exact g _ _ _ k
 | label l=>intro Q Q' T h g k;exact g _ _ _ k
 | seq a b i m=>
   intro Q Q' T h g k;refine i (λe T h q=>?_) k
   cases e<;>first
    | exact m g q
    | exact g _ _ _ q
 | region id ops d=>
   intro Q Q' T h g k;cases d with
   | false=>exact VS (g _) _ k
   | true=>exact wg g k
 | cond x a b i m=>
   intro Q Q' T h g k;unfold wpC JA at k⊢;split at k
   ·exact XY (i g) (m g) k
   ·exact k.elim
 | block id c n=>
   intro Q Q' T h g k;refine n (λe T h q=>?_) k;cases e<;>try exact g _ _ _ q
   rename_i j;by_cases o:j=id
   ·rw[JD,if_pos o] at q ⊢;exact g _ _ _ q
   ·rw[JD,if_neg o] at q ⊢;exact g _ _ _ q
 | loop c n=>intro Q Q' T h g k;exact wg g k
 | exit id=>intro Q Q' T h g k;exact g _ _ _ k
 | ret=>intro Q Q' T h g k;exact g _ _ _ k
 | rangeFunc f p a b _ _=>intro Q Q' T h g k;exact wg g k
 | scope b _=>intro Q Q' T h g k;exact wg g k
 | goto l=>intro Q Q' T h g k;exact wg g k
 | refuse w=>intro Q Q' T h g k;exact wg g k
def yr{a b:Code}(S:Env->List Ob->Prop)(c:wpC P N B a (wZ S Q) T h)(d:∀T h,S T h->wpC P N B b Q T h):wpC P N B (.seq a b) Q T h:=by
 refine jKa a (λe T h q=>?_) c
 cases e<;>first
  | exact d _ _ q
  | exact q
def VT{K K':Env->List Ob->Prop}:wZ K (wZ K' Q)=wZ K Q:=by
 funext e T h;cases e<;>rfl
def jS{a b c:Code}:wpC P N B (.seq a (.seq b c)) Q T h=wpC P N B (.seq (.seq a b) c) Q T h:=by
 rw[Z3,Z3,Z3,VT];rfl
def Yc{c:Code}(S:Env->List Ob->Prop)(a:(∀T h,S T h->AWp P N B c Q T h)->AWp P N B c Q T h)(k:∀T h,S T h-> @w8 P N B ⟨(c,Q)⟩ T h): @w8 P N B ⟨(c,Q)⟩ T h:=a k
end
