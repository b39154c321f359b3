import Derived.Test.YtigdlmpjijhpaaaGreatKA
import Derived.Test.YtigdlmpjijhpaaaGreatK04
import Derived.Test.YtigdlmpjijhpaaaGreatProg
import Derived.Test.YtigdlmpjijhpaaaGreatK10
set_option linter.all false
namespace Go.Proofs.YtigdlmpjijhpaaaGreat.Ax
open Go Go.Proofs
set_option maxRecDepth 100000
theorem ty3:zP Tryz.prog 3=⟨true,false,1,8,some [.int .i64 0],true,.int .i64⟩:=id rfl
theorem ty4:zP Tryz.prog 4=⟨true,false,1,1,some [.bool false],true,.bool⟩:=id rfl
theorem ty5:zP Tryz.prog 5=⟨true,false,1,1,some [.int .u8 0],true,.int .u8⟩:=id rfl
theorem ty9:zP Tryz.prog 9=⟨true,false,1,16,some [.string ⟨#[]⟩],true,.str⟩:=id rfl
theorem xjb:zP Tryz.prog 20=⟨true,false,1,16,some [.nilIface],true,.other⟩:=id rfl
theorem K7a:zP Tryz.prog 22=⟨true,false,1,24,some [.slice none 0 0],true,.slice 225⟩:=id rfl
theorem K8a:zP Tryz.prog 24=⟨true,true,2,16,some [.int .i64 0,.int .i64 0],false,.struct [(0,3),(1,3)]⟩:=id rfl
theorem K9a:zP Tryz.prog 25=⟨true,false,1,24,some [.slice none 0 0],true,.slice 183⟩:=id rfl
theorem Joa:zP Tryz.prog 26=⟨true,false,1,24,some [.slice none 0 0],true,.slice 24⟩:=id rfl
theorem Zwa:zP Tryz.prog 27=⟨true,false,1,24,some [.slice none 0 0],true,.slice 3⟩:=id rfl
theorem Vaa:zP Tryz.prog 28=⟨true,false,1,24,some [.slice none 0 0],true,.slice 185⟩:=id rfl
theorem qfb:zP Tryz.prog 30=⟨true,true,23,280,some [.int .i64 0,.slice none 0 0,.int .i64 0,.int .i64 0,.slice none 0 0,.slice none 0 0,.slice none 0 0,.int .i64 0,.int .i64 0,.int .i64 0,.int .i64 0,.int .i64 0,.int .i64 0,.int .i64 0,.int .i64 0,.int .i64 0,.int .i64 0,.int .i64 0,.slice none 0 0,.int .i64 0,.int .i64 0,.int .i64 0,.slice none 0 0],false,.struct [(0,3),(1,22),(2,24),(4,25),(5,26),(6,26),(7,3),(8,3),(9,3),(10,3),(11,3),(12,3),(13,3),(14,3),(15,3),(16,3),(17,3),(18,27),(19,3),(20,3),(21,3),(22,28)]⟩:=id rfl
theorem Vba:zP Tryz.prog 31=⟨true,false,1,24,some [.slice none 0 0],true,.slice 75⟩:=id rfl
theorem qgb:zP Tryz.prog 32=⟨true,false,1,24,some [.slice none 0 0],true,.slice 45⟩:=id rfl
theorem xkb:zP Tryz.prog 33=⟨true,false,1,24,some [.slice none 0 0],true,.slice 5⟩:=id rfl
theorem YLa:zP Tryz.prog 37=⟨true,false,1,8,some [.int .i64 0],true,.int .i64⟩:=id rfl
theorem xlb:zP Tryz.prog 42=⟨true,true,7,56,some [.int .i64 0,.int .i64 0,.int .i64 0,.int .i64 0,.int .i64 0,.int .i64 0,.int .i64 0],false,.arr 7 3⟩:=id rfl
theorem qhb:zP Tryz.prog 43=⟨true,false,1,24,some [.slice none 0 0],true,.slice 105⟩:=id rfl
theorem qib:zP Tryz.prog 45=⟨true,true,27,232,some [.int .i64 0,.int .i64 0,.int .i64 0,.int .i64 0,.int .i64 0,.int .i64 0,.int .i64 0,.int .i64 0,.int .i64 0,.int .i64 0,.int .i64 0,.int .i64 0,.int .i64 0,.int .i64 0,.int .i64 0,.int .i64 0,.int .i64 0,.int .i64 0,.int .i64 0,.int .i64 0,.int .i64 0,.int .i64 0,.int .i64 0,.int .i64 0,.int .i64 0,.int .i64 0,.slice none 0 0],false,.struct [(0,3),(1,3),(2,37),(3,42),(10,42),(17,24),(19,24),(21,3),(22,3),(23,3),(24,3),(25,3),(26,43)]⟩:=id rfl
theorem qjb:zP Tryz.prog 51=⟨true,false,1,24,some [.slice none 0 0],true,.slice 146⟩:=id rfl
theorem qkb:zP Tryz.prog 55=⟨true,false,1,24,some [.slice none 0 0],true,.slice 143⟩:=id rfl
theorem xmb:zP Tryz.prog 58=⟨true,false,1,2,some [.int .u16 0],true,.int .u16⟩:=id rfl
theorem xnb:zP Tryz.prog 61=⟨true,false,1,24,some [.slice none 0 0],true,.slice 79⟩:=id rfl
theorem xob:zP Tryz.prog 63=⟨true,true,25,328,some [.int .i64 0,.slice none 0 0,.int .i64 0,.int .i64 0,.slice none 0 0,.slice none 0 0,.slice none 0 0,.int .i64 0,.int .i64 0,.int .i64 0,.int .i64 0,.int .i64 0,.int .i64 0,.int .i64 0,.int .i64 0,.int .i64 0,.int .i64 0,.int .i64 0,.slice none 0 0,.int .i64 0,.int .i64 0,.int .i64 0,.slice none 0 0,.slice none 0 0,.slice none 0 0],false,.struct [(0,30),(23,31),(24,27)]⟩:=id rfl
theorem xpb:zP Tryz.prog 67=⟨true,false,1,24,some [.slice none 0 0],true,.slice 71⟩:=id rfl
theorem xqb:zP Tryz.prog 71=⟨true,true,4,80,some [.int .i64 0,.slice none 0 0,.slice none 0 0,.slice none 0 0],false,.struct [(0,37),(1,32),(2,51),(3,33)]⟩:=id rfl
theorem Vca:zP Tryz.prog 75=⟨true,true,11,88,some [.int .i64 0,.int .i64 0,.int .i64 0,.int .i64 0,.int .i64 0,.int .i64 0,.int .i64 0,.int .i64 0,.int .i64 0,.int .i64 0,.int .i64 0],false,.struct [(0,3),(1,3),(2,3),(3,3),(4,3),(5,3),(6,3),(7,3),(8,3),(9,3),(10,3)]⟩:=id rfl
theorem xrb:zP Tryz.prog 77=⟨true,true,12,96,some [.int .i64 0,.int .i64 0,.int .i64 0,.int .i64 0,.int .i64 0,.int .i64 0,.int .i64 0,.int .i64 0,.int .i64 0,.int .i64 0,.int .i64 0,.int .i64 0],false,.struct [(0,3),(1,75)]⟩:=id rfl
theorem xsb:zP Tryz.prog 79=⟨true,true,16,128,some [.int .i64 0,.int .i64 0,.int .i64 0,.int .i64 0,.int .i64 0,.int .i64 0,.int .i64 0,.int .i64 0,.int .i64 0,.int .i64 0,.int .i64 0,.int .i64 0,.int .i64 0,.int .i64 0,.int .i64 0,.int .i64 0],false,.struct [(0,3),(1,77),(13,3),(14,3),(15,3)]⟩:=id rfl
theorem xtb:zP Tryz.prog 83=⟨true,true,26,352,some [.int .i64 0,.slice none 0 0,.int .i64 0,.int .i64 0,.slice none 0 0,.slice none 0 0,.slice none 0 0,.int .i64 0,.int .i64 0,.int .i64 0,.int .i64 0,.int .i64 0,.int .i64 0,.int .i64 0,.int .i64 0,.int .i64 0,.int .i64 0,.int .i64 0,.slice none 0 0,.int .i64 0,.int .i64 0,.int .i64 0,.slice none 0 0,.slice none 0 0,.slice none 0 0,.slice none 0 0],false,.struct [(0,63),(25,32)]⟩:=id rfl
theorem xub:zP Tryz.prog 86=⟨true,false,1,24,some [.slice none 0 0],true,.slice 92⟩:=id rfl
theorem qlb:zP Tryz.prog 90=⟨true,true,2,16,some [.int .i64 0,.int .i64 0],false,.struct [(0,3),(1,3)]⟩:=id rfl
theorem xvb:zP Tryz.prog 92=⟨true,false,1,24,some [.slice none 0 0],true,.slice 90⟩:=id rfl
theorem W7a:zP Tryz.prog 105=⟨true,true,2,16,some [.int .i64 0,.int .i64 0],false,.struct [(0,3),(1,3)]⟩:=id rfl
theorem qmb:zP Tryz.prog 107=⟨true,true,2,32,some [.slice none 0 0,.bool false],false,.struct [(0,33),(1,4)]⟩:=id rfl
theorem qnb:zP Tryz.prog 108=⟨true,false,1,8,some [.nilFunc],true,.other⟩:=id rfl
theorem W8a:zP Tryz.prog 109=⟨true,false,1,8,some [.pointer none],true,.ptr 3⟩:=id rfl
theorem qob:zP Tryz.prog 111=⟨true,false,1,8,some [.pointer none],true,.ptr 107⟩:=id rfl
theorem qpb:zP Tryz.prog 113=⟨true,true,0,0,some [],false,.struct []⟩:=id rfl
theorem qqb:zP Tryz.prog 116=⟨true,true,2,32,some [.slice none 0 0,.bool false],false,.struct [(0,107)]⟩:=id rfl
theorem qrb:zP Tryz.prog 119=⟨true,false,1,8,some [.pointer none],true,.ptr 45⟩:=id rfl
theorem qsb:zP Tryz.prog 124=⟨true,false,1,8,some [.nilFunc],true,.other⟩:=id rfl
theorem qtb:zP Tryz.prog 126=⟨true,false,1,24,some [.slice none 0 0],true,.slice 194⟩:=id rfl
theorem W9a:zP Tryz.prog 135=⟨true,false,1,8,some [.pointer none],true,.ptr 138⟩:=id rfl
theorem Yaa:zP Tryz.prog 136=⟨true,false,1,8,some [.pointer none],true,.ptr 236⟩:=id rfl
theorem Yba:zP Tryz.prog 138=⟨true,true,26,336,some [.int .i64 0,.slice none 0 0,.int .i64 0,.int .i64 0,.slice none 0 0,.slice none 0 0,.slice none 0 0,.int .i64 0,.int .i64 0,.int .i64 0,.int .i64 0,.int .i64 0,.int .i64 0,.int .i64 0,.int .i64 0,.int .i64 0,.int .i64 0,.int .i64 0,.slice none 0 0,.int .i64 0,.int .i64 0,.int .i64 0,.slice none 0 0,.pointer none,.slice none 0 0,.slice none 0 0],false,.struct [(0,30),(23,136),(24,51),(25,43)]⟩:=id rfl
theorem Yca:zP Tryz.prog 143=⟨true,true,2,16,some [.int .i64 0,.int .i64 0],false,.struct [(0,3),(1,3)]⟩:=id rfl
theorem Yda:zP Tryz.prog 146=⟨true,true,5,40,some [.int .i64 0,.int .i64 0,.int .i64 0,.int .i64 0,.int .i64 0],false,.struct [(0,3),(1,3),(2,3),(3,3),(4,3)]⟩:=id rfl
theorem Yea:zP Tryz.prog 147=⟨true,false,1,8,some [.nilFunc],true,.other⟩:=id rfl
theorem qub:zP Tryz.prog 150=⟨true,false,1,8,some [.nilFunc],true,.other⟩:=id rfl
theorem qvb:zP Tryz.prog 151=⟨true,false,1,8,some [.pointer none],true,.ptr 154⟩:=id rfl
theorem qwb:zP Tryz.prog 152=⟨true,false,1,8,some [.map none],true,.mapk 3 150⟩:=id rfl
theorem qxb:zP Tryz.prog 154=⟨true,true,45,536,some [.int .i64 0,.slice none 0 0,.int .i64 0,.int .i64 0,.slice none 0 0,.slice none 0 0,.slice none 0 0,.int .i64 0,.int .i64 0,.int .i64 0,.int .i64 0,.int .i64 0,.int .i64 0,.int .i64 0,.int .i64 0,.int .i64 0,.int .i64 0,.int .i64 0,.slice none 0 0,.int .i64 0,.int .i64 0,.int .i64 0,.slice none 0 0,.slice none 0 0,.slice none 0 0,.int .i64 0,.slice none 0 0,.slice none 0 0,.slice none 0 0,.int .i64 0,.int .i64 0,.int .i64 0,.int .i64 0,.int .i64 0,.int .i64 0,.int .i64 0,.int .i64 0,.int .i64 0,.int .i64 0,.int .i64 0,.int .i64 0,.int .i64 0,.int .i64 0,.int .i64 0,.int .i64 0],false,.struct [(0,63),(25,71),(29,79)]⟩:=id rfl
theorem qyb:zP Tryz.prog 158=⟨true,false,1,8,some [.pointer none],true,.ptr 161⟩:=id rfl
theorem qzb:zP Tryz.prog 161=⟨true,true,27,376,some [.int .i64 0,.slice none 0 0,.int .i64 0,.int .i64 0,.slice none 0 0,.slice none 0 0,.slice none 0 0,.int .i64 0,.int .i64 0,.int .i64 0,.int .i64 0,.int .i64 0,.int .i64 0,.int .i64 0,.int .i64 0,.int .i64 0,.int .i64 0,.int .i64 0,.slice none 0 0,.int .i64 0,.int .i64 0,.int .i64 0,.slice none 0 0,.slice none 0 0,.slice none 0 0,.slice none 0 0,.slice none 0 0],false,.struct [(0,83),(26,92)]⟩:=id rfl
theorem qAb:zP Tryz.prog 162=⟨true,false,1,8,some [.nilFunc],true,.other⟩:=id rfl
theorem qBb:zP Tryz.prog 165=⟨true,false,1,8,some [.nilFunc],true,.other⟩:=id rfl
theorem qCb:zP Tryz.prog 166=⟨true,false,1,8,some [.map none],true,.mapk 90 3⟩:=id rfl
theorem qDb:zP Tryz.prog 171=⟨true,true,12,96,some [.int .i64 0,.int .i64 0,.int .i64 0,.int .i64 0,.int .i64 0,.int .i64 0,.int .i64 0,.int .i64 0,.int .i64 0,.int .i64 0,.int .i64 0,.int .i64 0],false,.struct [(0,3),(1,75)]⟩:=id rfl
theorem qEb:zP Tryz.prog 173=⟨true,false,1,8,some [.nilFunc],true,.other⟩:=id rfl
theorem qFb:zP Tryz.prog 176=⟨true,false,1,8,some [.nilFunc],true,.other⟩:=id rfl
theorem Jpa:zP Tryz.prog 183=⟨true,true,4,32,some [.int .i64 0,.int .i64 0,.int .i64 0,.int .i64 0],false,.struct [(0,24),(2,24)]⟩:=id rfl
theorem Jqa:zP Tryz.prog 185=⟨true,true,2,16,some [.int .i64 0,.int .i64 0],false,.struct [(0,3),(1,3)]⟩:=id rfl
theorem Yfa:zP Tryz.prog 186=⟨true,false,1,24,some [.slice none 0 0],true,.slice 109⟩:=id rfl
theorem qGb:zP Tryz.prog 187=⟨true,false,1,8,some [.pointer none],true,.ptr 116⟩:=id rfl
theorem qHb:zP Tryz.prog 191=⟨true,false,1,8,some [.nilFunc],true,.other⟩:=id rfl
theorem qIb:zP Tryz.prog 194=⟨true,true,3,24,some [.int .i64 0,.int .i64 0,.int .i64 0],false,.struct [(0,3),(1,3),(2,3)]⟩:=id rfl
theorem qJb:zP Tryz.prog 201=⟨true,true,3,72,some [.slice none 0 0,.slice none 0 0,.slice none 0 0],false,.arr 3 55⟩:=id rfl
theorem qKb:zP Tryz.prog 206=⟨true,false,1,8,some [.nilFunc],true,.other⟩:=id rfl
theorem Yga:zP Tryz.prog 210=⟨true,true,3,24,some [.int .i64 0,.int .i64 0,.int .i64 0],false,.struct [(0,24),(2,37)]⟩:=id rfl
theorem qLb:zP Tryz.prog 217=⟨true,false,1,8,some [.nilFunc],true,.other⟩:=id rfl
theorem qMb:zP Tryz.prog 218=⟨true,false,1,8,some [.nilFunc],true,.other⟩:=id rfl
theorem Jra:zP Tryz.prog 225=⟨true,true,3,24,some [.int .i64 0,.int .i64 0,.int .i64 0],false,.struct [(0,3),(1,3),(2,3)]⟩:=id rfl
theorem qNb:zP Tryz.prog 227=⟨true,false,1,8,some [.nilFunc],true,.other⟩:=id rfl
theorem qOb:zP Tryz.prog 230=⟨true,false,1,8,some [.nilFunc],true,.other⟩:=id rfl
theorem qPb:zP Tryz.prog 232=⟨true,false,1,8,some [.nilFunc],true,.other⟩:=id rfl
theorem Yha:zP Tryz.prog 236=⟨true,true,12,112,some [.int .i64 0,.int .i64 0,.int .i64 0,.int .i64 0,.int .i64 0,.int .i64 0,.int .i64 0,.int .i64 0,.int .i64 0,.int .i64 0,.int .i64 0,.slice none 0 0],false,.struct [(0,75),(11,31)]⟩:=id rfl
theorem Yia:zP Tryz.prog 238=⟨true,false,1,8,some [.nilFunc],true,.other⟩:=id rfl
theorem qQb:zP Tryz.prog 241=⟨true,false,1,8,some [.int .u64 0],true,.int .u64⟩:=id rfl
theorem qRb:zP Tryz.prog 250=⟨true,false,1,8,some [.nilFunc],true,.other⟩:=id rfl
theorem Jsa:zP Tryz.prog 258=⟨true,false,1,8,some [.int .u64 0],true,.int .u64⟩:=id rfl
theorem Yja:zP Tryz.prog 265=⟨true,false,1,8,some [.pointer none],true,.ptr 75⟩:=id rfl
theorem qSb:zP Tryz.prog 284=⟨true,false,1,8,some [.nilFunc],true,.other⟩:=id rfl
theorem qTb:zP Tryz.prog 301=⟨true,false,1,8,some [.int .i64 0],true,.int .i64⟩:=id rfl
theorem qUb:zP Tryz.prog 308=⟨true,false,1,4,some [.int .u32 0],true,.int .u32⟩:=id rfl
theorem Yka:zP Tryz.prog 311=⟨true,false,1,8,some [.map none],true,.mapk 3 186⟩:=id rfl
theorem qVb:zP Tryz.prog 315=⟨true,false,1,24,some [.slice none 0 0],true,.slice 55⟩:=id rfl
theorem Yla:zP Tryz.prog 322=⟨true,false,1,24,some [.slice none 0 0],true,.slice 27⟩:=id rfl
theorem qWb:zP Tryz.prog 335=⟨true,false,1,8,some [.int .u64 0],true,.int .u64⟩:=id rfl
theorem YMa:xB Tryz.prog 24=true:=by unfold xB;rw[Tryz.eqGuardType24,Tryz.stoodInHeld24];rfl
theorem qXb:xB Tryz.prog 75=true:=by unfold xB;rw[Tryz.eqGuardType75,Tryz.stoodInHeld75];rfl
theorem xwb:xB Tryz.prog 90=true:=by unfold xB;rw[Tryz.eqGuardType90,Tryz.stoodInHeld90];rfl
theorem Yma:xB Tryz.prog 105=true:=by unfold xB;rw[Tryz.eqGuardType105,Tryz.stoodInHeld105];rfl
theorem Yna:xB Tryz.prog 146=true:=by unfold xB;rw[Tryz.eqGuardType146,Tryz.stoodInHeld146];rfl
end Go.Proofs.YtigdlmpjijhpaaaGreat.Ax
namespace Go.Proofs.YtigdlmpjijhpaaaGreat.Ax
open Go Go.RowKit
section
variable {P:Program} {N:Nat} {B:Bs} {T:Env} {h:List Ob} {Q Q':xR}
theorem qEa{b:Bool}{p q a c:Prop}(f:p->a)(d:q->c)(k: @WQ b ⟨p⟩ ⟨q⟩): @WQ b ⟨a⟩ ⟨c⟩:=⟨λe=>f (k.1 e),λe=>d (k.2 e)⟩
theorem qFa{o:Oper}{K K':Env->List Ob->Prop}(b:∀T h,K T h->K' T h)(k:WR P T h o K):WR P T h o K':=by
 unfold WR at k⊢
 cases c:q9 o.op with
 | some q=>
   rw[c] at k
   simp only[Yy] at k⊢
   split at k
   ·exact ACalls.mono k λr h'=>b _ _
   ·split at k
    ·rename_i a
     simp only[if_pos a]
     exact JO k λh'=>b _ _
    ·exact k.elim
   ·exact k.elim
 | none=>
   rw[c] at k
   simp only[Yx] at k⊢
   split at k
   ·exact b _ _ k
   ·exact k.elim
theorem x7a{ops:Array Oper}{K K':Env->List Ob->Prop}(b:∀T h,K T h->K' T h):∀(l:List Oper) {T:Env} {h:List Ob},wpR P ops K l T h->wpR P ops K' l T h
 | [],_,_,k=>b _ _ k
 | o::r,T,h,k=>by
   have a:∀T h,wpR P ops K r T h->wpR P ops K' r T h:=λT h=>x7a b r
   unfold wpR at k⊢
   cases c:o.guard with
   | none=>simp only[c] at k ⊢;exact qFa a k
   | some q=>
     obtain⟨j,want⟩:=q
     simp only[c] at k⊢
     unfold wV at k⊢
     split at k
     ·exact qEa (qFa a) (a _ _) k
     ·exact a _ _ k
     ·exact k.elim
theorem Zs{c:Code}(a:∀e T h,Q e T h->Q' e T h)(k: @Z6 P N B ⟨(c,Q)⟩ T h): @Z6 P N B ⟨(c,Q')⟩ T h:=AWp.mono k a
theorem Xha:∀(c:Code) {Q Q':xR} {T:Env} {h:List Ob},(∀e T h,Q e T h->Q' e T h)->wpC P N B c Q T h->wpC P N B c Q' T h:=by
 intro c
 induction c with
 | skip=>intro Q Q' T h g k;exact g _ _ _ k
 | label l=>intro Q Q' T h g k;exact g _ _ _ k
 | seq a b i m=>
   intro Q Q' T h g k
   refine i (λe T h q=>?_) k
   cases e<;>first
    | exact m g q
    | exact g _ _ _ q
 | region id ops d=>
   intro Q Q' T h g k
   cases d with
   | false=>exact x7a (g _) _ k
   | true=>exact Zs g k
 | cond x a b i m=>
   intro Q Q' T h g k
   unfold wpC Yw at k⊢
   split at k
   ·exact qEa (i g) (m g) k
   ·exact k.elim
 | block id c n=>
   intro Q Q' T h g k
   refine n (λe T h q=>?_) k
   cases e<;>try exact g _ _ _ q
   rename_i j
   by_cases o:j=id
   ·rw[YA,if_pos o] at q ⊢;exact g _ _ _ q
   ·rw[YA,if_neg o] at q ⊢;exact g _ _ _ q
 | loop c n=>intro Q Q' T h g k;exact Zs g k
 | exit id=>intro Q Q' T h g k;exact g _ _ _ k
 | ret=>intro Q Q' T h g k;exact g _ _ _ k
 | rangeFunc f p a b _ _=>intro Q Q' T h g k;exact Zs g k
 | scope b _=>intro Q Q' T h g k;exact Zs g k
 | goto l=>intro Q Q' T h g k;exact Zs g k
 | refuse w=>intro Q Q' T h g k;exact Zs g k
theorem w8{a b:Code}(S:Env->List Ob->Prop)(d:wpC P N B a (yQ S Q) T h)(c:∀T h,S T h->wpC P N B b Q T h):wpC P N B (.seq a b) Q T h:=by
 refine Xha a (λe T h q=>?_) d
 cases e<;>first
  | exact c _ _ q
  | exact q
theorem x8a{K K':Env->List Ob->Prop}:yQ K (yQ K' Q)=yQ K Q:=by
 funext e T h
 cases e<;>rfl
theorem xL{a b c:Code}:wpC P N B (.seq a (.seq b c)) Q T h=wpC P N B (.seq (.seq a b) c) Q T h:=by
 rw[KQ,KQ,KQ,x8a]
 rfl
theorem YS{c:Code}(S:Env->List Ob->Prop)(a:(∀T h,S T h->AWp P N B c Q T h)->AWp P N B c Q T h)(k:∀T h,S T h-> @Z6 P N B ⟨(c,Q)⟩ T h): @Z6 P N B ⟨(c,Q)⟩ T h:=a k
end
