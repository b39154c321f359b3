import Derived.Test.YtigdlmpjijhpaaaGreatKA
import Derived.Test.YtigdlmpjijhpaaaGreatK04
import Derived.Test.YtigdlmpjijhpaaaGreatProg
import Derived.Test.YtigdlmpjijhpaaaGreatK10
set_option linter.all false
namespace Go.Proofs.YtigdlmpjijhpaaaGreat.Ax
open Go Go.Proofs
set_option maxRecDepth 100000
theorem ty3:zQ Tryz.prog 3=⟨true,false,1,8,some [.int .i64 0],true,.int .i64⟩:=id rfl
theorem ty4:zQ Tryz.prog 4=⟨true,false,1,1,some [.bool false],true,.bool⟩:=id rfl
theorem ty5:zQ Tryz.prog 5=⟨true,false,1,1,some [.int .u8 0],true,.int .u8⟩:=id rfl
theorem ty9:zQ Tryz.prog 9=⟨true,false,1,16,some [.string ⟨#[]⟩],true,.str⟩:=id rfl
theorem xDb:zQ Tryz.prog 20=⟨true,false,1,16,some [.nilIface],true,.other⟩:=id rfl
theorem Vka:zQ Tryz.prog 22=⟨true,false,1,24,some [.slice none 0 0],true,.slice 225⟩:=id rfl
theorem Vla:zQ Tryz.prog 24=⟨true,true,2,16,some [.int .i64 0,.int .i64 0],false,.struct [(0,3),(1,3)]⟩:=id rfl
theorem Vma:zQ Tryz.prog 25=⟨true,false,1,24,some [.slice none 0 0],true,.slice 183⟩:=id rfl
theorem Jya:zQ Tryz.prog 26=⟨true,false,1,24,some [.slice none 0 0],true,.slice 24⟩:=id rfl
theorem ZDa:zQ Tryz.prog 27=⟨true,false,1,24,some [.slice none 0 0],true,.slice 3⟩:=id rfl
theorem Vna:zQ Tryz.prog 28=⟨true,false,1,24,some [.slice none 0 0],true,.slice 185⟩:=id rfl
theorem qwb:zQ Tryz.prog 30=⟨true,true,23,280,some [.int .i64 0,.slice none 0 0,.int .i64 0,.int .i64 0,.slice none 0 0,.slice none 0 0,.slice none 0 0,.int .i64 0,.int .i64 0,.int .i64 0,.int .i64 0,.int .i64 0,.int .i64 0,.int .i64 0,.int .i64 0,.int .i64 0,.int .i64 0,.int .i64 0,.slice none 0 0,.int .i64 0,.int .i64 0,.int .i64 0,.slice none 0 0],false,.struct [(0,3),(1,22),(2,24),(4,25),(5,26),(6,26),(7,3),(8,3),(9,3),(10,3),(11,3),(12,3),(13,3),(14,3),(15,3),(16,3),(17,3),(18,27),(19,3),(20,3),(21,3),(22,28)]⟩:=id rfl
theorem Voa:zQ Tryz.prog 31=⟨true,false,1,24,some [.slice none 0 0],true,.slice 75⟩:=id rfl
theorem qxb:zQ Tryz.prog 32=⟨true,false,1,24,some [.slice none 0 0],true,.slice 45⟩:=id rfl
theorem xEb:zQ Tryz.prog 33=⟨true,false,1,24,some [.slice none 0 0],true,.slice 5⟩:=id rfl
theorem YYa:zQ Tryz.prog 37=⟨true,false,1,8,some [.int .i64 0],true,.int .i64⟩:=id rfl
theorem xFb:zQ Tryz.prog 42=⟨true,true,7,56,some [.int .i64 0,.int .i64 0,.int .i64 0,.int .i64 0,.int .i64 0,.int .i64 0,.int .i64 0],false,.arr 7 3⟩:=id rfl
theorem qyb:zQ Tryz.prog 43=⟨true,false,1,24,some [.slice none 0 0],true,.slice 105⟩:=id rfl
theorem qzb:zQ Tryz.prog 45=⟨true,true,27,232,some [.int .i64 0,.int .i64 0,.int .i64 0,.int .i64 0,.int .i64 0,.int .i64 0,.int .i64 0,.int .i64 0,.int .i64 0,.int .i64 0,.int .i64 0,.int .i64 0,.int .i64 0,.int .i64 0,.int .i64 0,.int .i64 0,.int .i64 0,.int .i64 0,.int .i64 0,.int .i64 0,.int .i64 0,.int .i64 0,.int .i64 0,.int .i64 0,.int .i64 0,.int .i64 0,.slice none 0 0],false,.struct [(0,3),(1,3),(2,37),(3,42),(10,42),(17,24),(19,24),(21,3),(22,3),(23,3),(24,3),(25,3),(26,43)]⟩:=id rfl
theorem qAb:zQ Tryz.prog 51=⟨true,false,1,24,some [.slice none 0 0],true,.slice 146⟩:=id rfl
theorem qBb:zQ Tryz.prog 55=⟨true,false,1,24,some [.slice none 0 0],true,.slice 143⟩:=id rfl
theorem xGb:zQ Tryz.prog 58=⟨true,false,1,2,some [.int .u16 0],true,.int .u16⟩:=id rfl
theorem xHb:zQ Tryz.prog 61=⟨true,false,1,24,some [.slice none 0 0],true,.slice 79⟩:=id rfl
theorem xIb:zQ Tryz.prog 63=⟨true,true,25,328,some [.int .i64 0,.slice none 0 0,.int .i64 0,.int .i64 0,.slice none 0 0,.slice none 0 0,.slice none 0 0,.int .i64 0,.int .i64 0,.int .i64 0,.int .i64 0,.int .i64 0,.int .i64 0,.int .i64 0,.int .i64 0,.int .i64 0,.int .i64 0,.int .i64 0,.slice none 0 0,.int .i64 0,.int .i64 0,.int .i64 0,.slice none 0 0,.slice none 0 0,.slice none 0 0],false,.struct [(0,30),(23,31),(24,27)]⟩:=id rfl
theorem xJb:zQ Tryz.prog 67=⟨true,false,1,24,some [.slice none 0 0],true,.slice 71⟩:=id rfl
theorem xKb:zQ Tryz.prog 71=⟨true,true,4,80,some [.int .i64 0,.slice none 0 0,.slice none 0 0,.slice none 0 0],false,.struct [(0,37),(1,32),(2,51),(3,33)]⟩:=id rfl
theorem Vpa:zQ Tryz.prog 75=⟨true,true,11,88,some [.int .i64 0,.int .i64 0,.int .i64 0,.int .i64 0,.int .i64 0,.int .i64 0,.int .i64 0,.int .i64 0,.int .i64 0,.int .i64 0,.int .i64 0],false,.struct [(0,3),(1,3),(2,3),(3,3),(4,3),(5,3),(6,3),(7,3),(8,3),(9,3),(10,3)]⟩:=id rfl
theorem xLb:zQ Tryz.prog 77=⟨true,true,12,96,some [.int .i64 0,.int .i64 0,.int .i64 0,.int .i64 0,.int .i64 0,.int .i64 0,.int .i64 0,.int .i64 0,.int .i64 0,.int .i64 0,.int .i64 0,.int .i64 0],false,.struct [(0,3),(1,75)]⟩:=id rfl
theorem xMb:zQ Tryz.prog 79=⟨true,true,16,128,some [.int .i64 0,.int .i64 0,.int .i64 0,.int .i64 0,.int .i64 0,.int .i64 0,.int .i64 0,.int .i64 0,.int .i64 0,.int .i64 0,.int .i64 0,.int .i64 0,.int .i64 0,.int .i64 0,.int .i64 0,.int .i64 0],false,.struct [(0,3),(1,77),(13,3),(14,3),(15,3)]⟩:=id rfl
theorem xNb:zQ Tryz.prog 83=⟨true,true,26,352,some [.int .i64 0,.slice none 0 0,.int .i64 0,.int .i64 0,.slice none 0 0,.slice none 0 0,.slice none 0 0,.int .i64 0,.int .i64 0,.int .i64 0,.int .i64 0,.int .i64 0,.int .i64 0,.int .i64 0,.int .i64 0,.int .i64 0,.int .i64 0,.int .i64 0,.slice none 0 0,.int .i64 0,.int .i64 0,.int .i64 0,.slice none 0 0,.slice none 0 0,.slice none 0 0,.slice none 0 0],false,.struct [(0,63),(25,32)]⟩:=id rfl
theorem xOb:zQ Tryz.prog 86=⟨true,false,1,24,some [.slice none 0 0],true,.slice 92⟩:=id rfl
theorem qCb:zQ Tryz.prog 90=⟨true,true,2,16,some [.int .i64 0,.int .i64 0],false,.struct [(0,3),(1,3)]⟩:=id rfl
theorem xPb:zQ Tryz.prog 92=⟨true,false,1,24,some [.slice none 0 0],true,.slice 90⟩:=id rfl
theorem Yka:zQ Tryz.prog 105=⟨true,true,2,16,some [.int .i64 0,.int .i64 0],false,.struct [(0,3),(1,3)]⟩:=id rfl
theorem qDb:zQ Tryz.prog 107=⟨true,true,2,32,some [.slice none 0 0,.bool false],false,.struct [(0,33),(1,4)]⟩:=id rfl
theorem qEb:zQ Tryz.prog 108=⟨true,false,1,8,some [.nilFunc],true,.other⟩:=id rfl
theorem Yla:zQ Tryz.prog 109=⟨true,false,1,8,some [.pointer none],true,.ptr 3⟩:=id rfl
theorem qFb:zQ Tryz.prog 111=⟨true,false,1,8,some [.pointer none],true,.ptr 107⟩:=id rfl
theorem qGb:zQ Tryz.prog 113=⟨true,true,0,0,some [],false,.struct []⟩:=id rfl
theorem qHb:zQ Tryz.prog 116=⟨true,true,2,32,some [.slice none 0 0,.bool false],false,.struct [(0,107)]⟩:=id rfl
theorem qIb:zQ Tryz.prog 119=⟨true,false,1,8,some [.pointer none],true,.ptr 45⟩:=id rfl
theorem qJb:zQ Tryz.prog 124=⟨true,false,1,8,some [.nilFunc],true,.other⟩:=id rfl
theorem qKb:zQ Tryz.prog 126=⟨true,false,1,24,some [.slice none 0 0],true,.slice 194⟩:=id rfl
theorem Yma:zQ Tryz.prog 135=⟨true,false,1,8,some [.pointer none],true,.ptr 138⟩:=id rfl
theorem Yna:zQ Tryz.prog 136=⟨true,false,1,8,some [.pointer none],true,.ptr 236⟩:=id rfl
theorem Yoa:zQ Tryz.prog 138=⟨true,true,26,336,some [.int .i64 0,.slice none 0 0,.int .i64 0,.int .i64 0,.slice none 0 0,.slice none 0 0,.slice none 0 0,.int .i64 0,.int .i64 0,.int .i64 0,.int .i64 0,.int .i64 0,.int .i64 0,.int .i64 0,.int .i64 0,.int .i64 0,.int .i64 0,.int .i64 0,.slice none 0 0,.int .i64 0,.int .i64 0,.int .i64 0,.slice none 0 0,.pointer none,.slice none 0 0,.slice none 0 0],false,.struct [(0,30),(23,136),(24,51),(25,43)]⟩:=id rfl
theorem Ypa:zQ Tryz.prog 143=⟨true,true,2,16,some [.int .i64 0,.int .i64 0],false,.struct [(0,3),(1,3)]⟩:=id rfl
theorem Yqa:zQ Tryz.prog 146=⟨true,true,5,40,some [.int .i64 0,.int .i64 0,.int .i64 0,.int .i64 0,.int .i64 0],false,.struct [(0,3),(1,3),(2,3),(3,3),(4,3)]⟩:=id rfl
theorem Yra:zQ Tryz.prog 147=⟨true,false,1,8,some [.nilFunc],true,.other⟩:=id rfl
theorem qLb:zQ Tryz.prog 150=⟨true,false,1,8,some [.nilFunc],true,.other⟩:=id rfl
theorem qMb:zQ Tryz.prog 151=⟨true,false,1,8,some [.pointer none],true,.ptr 154⟩:=id rfl
theorem qNb:zQ Tryz.prog 152=⟨true,false,1,8,some [.map none],true,.mapk 3 150⟩:=id rfl
theorem qOb:zQ Tryz.prog 154=⟨true,true,45,536,some [.int .i64 0,.slice none 0 0,.int .i64 0,.int .i64 0,.slice none 0 0,.slice none 0 0,.slice none 0 0,.int .i64 0,.int .i64 0,.int .i64 0,.int .i64 0,.int .i64 0,.int .i64 0,.int .i64 0,.int .i64 0,.int .i64 0,.int .i64 0,.int .i64 0,.slice none 0 0,.int .i64 0,.int .i64 0,.int .i64 0,.slice none 0 0,.slice none 0 0,.slice none 0 0,.int .i64 0,.slice none 0 0,.slice none 0 0,.slice none 0 0,.int .i64 0,.int .i64 0,.int .i64 0,.int .i64 0,.int .i64 0,.int .i64 0,.int .i64 0,.int .i64 0,.int .i64 0,.int .i64 0,.int .i64 0,.int .i64 0,.int .i64 0,.int .i64 0,.int .i64 0,.int .i64 0],false,.struct [(0,63),(25,71),(29,79)]⟩:=id rfl
theorem qPb:zQ Tryz.prog 158=⟨true,false,1,8,some [.pointer none],true,.ptr 161⟩:=id rfl
theorem qQb:zQ Tryz.prog 161=⟨true,true,27,376,some [.int .i64 0,.slice none 0 0,.int .i64 0,.int .i64 0,.slice none 0 0,.slice none 0 0,.slice none 0 0,.int .i64 0,.int .i64 0,.int .i64 0,.int .i64 0,.int .i64 0,.int .i64 0,.int .i64 0,.int .i64 0,.int .i64 0,.int .i64 0,.int .i64 0,.slice none 0 0,.int .i64 0,.int .i64 0,.int .i64 0,.slice none 0 0,.slice none 0 0,.slice none 0 0,.slice none 0 0,.slice none 0 0],false,.struct [(0,83),(26,92)]⟩:=id rfl
theorem qRb:zQ Tryz.prog 162=⟨true,false,1,8,some [.nilFunc],true,.other⟩:=id rfl
theorem qSb:zQ Tryz.prog 165=⟨true,false,1,8,some [.nilFunc],true,.other⟩:=id rfl
theorem qTb:zQ Tryz.prog 166=⟨true,false,1,8,some [.map none],true,.mapk 90 3⟩:=id rfl
theorem qUb:zQ Tryz.prog 171=⟨true,true,12,96,some [.int .i64 0,.int .i64 0,.int .i64 0,.int .i64 0,.int .i64 0,.int .i64 0,.int .i64 0,.int .i64 0,.int .i64 0,.int .i64 0,.int .i64 0,.int .i64 0],false,.struct [(0,3),(1,75)]⟩:=id rfl
theorem qVb:zQ Tryz.prog 173=⟨true,false,1,8,some [.nilFunc],true,.other⟩:=id rfl
theorem qWb:zQ Tryz.prog 176=⟨true,false,1,8,some [.nilFunc],true,.other⟩:=id rfl
theorem Jza:zQ Tryz.prog 183=⟨true,true,4,32,some [.int .i64 0,.int .i64 0,.int .i64 0,.int .i64 0],false,.struct [(0,24),(2,24)]⟩:=id rfl
theorem JAa:zQ Tryz.prog 185=⟨true,true,2,16,some [.int .i64 0,.int .i64 0],false,.struct [(0,3),(1,3)]⟩:=id rfl
theorem Ysa:zQ Tryz.prog 186=⟨true,false,1,24,some [.slice none 0 0],true,.slice 109⟩:=id rfl
theorem qXb:zQ Tryz.prog 187=⟨true,false,1,8,some [.pointer none],true,.ptr 116⟩:=id rfl
theorem qYb:zQ Tryz.prog 191=⟨true,false,1,8,some [.nilFunc],true,.other⟩:=id rfl
theorem qZb:zQ Tryz.prog 194=⟨true,true,3,24,some [.int .i64 0,.int .i64 0,.int .i64 0],false,.struct [(0,3),(1,3),(2,3)]⟩:=id rfl
theorem q0b:zQ Tryz.prog 201=⟨true,true,3,72,some [.slice none 0 0,.slice none 0 0,.slice none 0 0],false,.arr 3 55⟩:=id rfl
theorem q1b:zQ Tryz.prog 206=⟨true,false,1,8,some [.nilFunc],true,.other⟩:=id rfl
theorem Yta:zQ Tryz.prog 210=⟨true,true,3,24,some [.int .i64 0,.int .i64 0,.int .i64 0],false,.struct [(0,24),(2,37)]⟩:=id rfl
theorem q2b:zQ Tryz.prog 217=⟨true,false,1,8,some [.nilFunc],true,.other⟩:=id rfl
theorem q3b:zQ Tryz.prog 218=⟨true,false,1,8,some [.nilFunc],true,.other⟩:=id rfl
theorem JBa:zQ Tryz.prog 225=⟨true,true,3,24,some [.int .i64 0,.int .i64 0,.int .i64 0],false,.struct [(0,3),(1,3),(2,3)]⟩:=id rfl
theorem q4b:zQ Tryz.prog 227=⟨true,false,1,8,some [.nilFunc],true,.other⟩:=id rfl
theorem q5b:zQ Tryz.prog 230=⟨true,false,1,8,some [.nilFunc],true,.other⟩:=id rfl
theorem q6b:zQ Tryz.prog 232=⟨true,false,1,8,some [.nilFunc],true,.other⟩:=id rfl
theorem Yua:zQ Tryz.prog 236=⟨true,true,12,112,some [.int .i64 0,.int .i64 0,.int .i64 0,.int .i64 0,.int .i64 0,.int .i64 0,.int .i64 0,.int .i64 0,.int .i64 0,.int .i64 0,.int .i64 0,.slice none 0 0],false,.struct [(0,75),(11,31)]⟩:=id rfl
theorem Yva:zQ Tryz.prog 238=⟨true,false,1,8,some [.nilFunc],true,.other⟩:=id rfl
theorem q7b:zQ Tryz.prog 241=⟨true,false,1,8,some [.int .u64 0],true,.int .u64⟩:=id rfl
theorem q8b:zQ Tryz.prog 250=⟨true,false,1,8,some [.nilFunc],true,.other⟩:=id rfl
theorem JCa:zQ Tryz.prog 258=⟨true,false,1,8,some [.int .u64 0],true,.int .u64⟩:=id rfl
theorem Ywa:zQ Tryz.prog 265=⟨true,false,1,8,some [.pointer none],true,.ptr 75⟩:=id rfl
theorem q9b:zQ Tryz.prog 284=⟨true,false,1,8,some [.nilFunc],true,.other⟩:=id rfl
theorem jab:zQ Tryz.prog 301=⟨true,false,1,8,some [.int .i64 0],true,.int .i64⟩:=id rfl
theorem jbb:zQ Tryz.prog 308=⟨true,false,1,4,some [.int .u32 0],true,.int .u32⟩:=id rfl
theorem Yxa:zQ Tryz.prog 311=⟨true,false,1,8,some [.map none],true,.mapk 3 186⟩:=id rfl
theorem jcb:zQ Tryz.prog 315=⟨true,false,1,24,some [.slice none 0 0],true,.slice 55⟩:=id rfl
theorem Yya:zQ Tryz.prog 322=⟨true,false,1,24,some [.slice none 0 0],true,.slice 27⟩:=id rfl
theorem jdb:zQ Tryz.prog 335=⟨true,false,1,8,some [.int .u64 0],true,.int .u64⟩:=id rfl
theorem YZa:xC Tryz.prog 24=true:=by unfold xC;rw[Tryz.eqGuardType24,Tryz.stoodInHeld24];rfl
theorem jeb:xC Tryz.prog 75=true:=by unfold xC;rw[Tryz.eqGuardType75,Tryz.stoodInHeld75];rfl
theorem xQb:xC Tryz.prog 90=true:=by unfold xC;rw[Tryz.eqGuardType90,Tryz.stoodInHeld90];rfl
theorem Yza:xC Tryz.prog 105=true:=by unfold xC;rw[Tryz.eqGuardType105,Tryz.stoodInHeld105];rfl
theorem YAa:xC Tryz.prog 146=true:=by unfold xC;rw[Tryz.eqGuardType146,Tryz.stoodInHeld146];rfl
end Go.Proofs.YtigdlmpjijhpaaaGreat.Ax
namespace Go.Proofs.YtigdlmpjijhpaaaGreat.Ax
open Go Go.RowKit
section
variable {P:Program} {N:Nat} {B:Bs} {T:Env} {h:List Ob} {Q Q':xV}
theorem qIa{b:Bool}{p q a c:Prop}(d:p->a)(f:q->c)(k: @WT b ⟨p⟩ ⟨q⟩): @WT b ⟨a⟩ ⟨c⟩:=⟨λe=>d (k.1 e),λe=>f (k.2 e)⟩
theorem qJa{o:Oper}{K K':Env->List Ob->Prop}(a:∀T h,K T h->K' T h)(k:WU P T h o K):WU P T h o K':=by
 unfold WU at k⊢
 cases c:q8 o.op with
 | some q=>
   rw[c] at k
   simp only[YA] at k⊢
   split at k
   ·exact ACalls.mono k λr h'=>a _ _
   ·split at k
    ·rename_i b
     simp only[if_pos b]
     exact JQ k λh'=>a _ _
    ·exact k.elim
   ·exact k.elim
 | none=>
   rw[c] at k
   simp only[Yz] at k⊢
   split at k
   ·exact a _ _ k
   ·exact k.elim
theorem kaa{ops:Array Oper}{K K':Env->List Ob->Prop}(b:∀T h,K T h->K' T h):∀(l:List Oper) {T:Env} {h:List Ob},wpR P ops K l T h->wpR P ops K' l T h
 | [],_,_,k=>b _ _ k
 | o::r,T,h,k=>by
   have a:∀T h,wpR P ops K r T h->wpR P ops K' r T h:=λT h=>kaa b r
   unfold wpR at k⊢
   cases c:o.guard with
   | none=>simp only[c] at k ⊢;exact qJa a k
   | some q=>
     obtain⟨j,want⟩:=q
     simp only[c] at k⊢
     unfold wW at k⊢
     split at k
     ·exact qIa (qJa a) (a _ _) k
     ·exact a _ _ k
     ·exact k.elim
theorem Zv{c:Code}(a:∀e T h,Q e T h->Q' e T h)(k: @Z7 P N B ⟨(c,Q)⟩ T h): @Z7 P N B ⟨(c,Q')⟩ T h:=AWp.mono k a
theorem Xra:∀(c:Code) {Q Q':xV} {T:Env} {h:List Ob},(∀e T h,Q e T h->Q' e T h)->wpC P N B c Q T h->wpC P N B c Q' T h:=by
 intro c
 induction c with
 | skip=>intro Q Q' T h g k;exact g _ _ _ k
 | label l=>intro Q Q' T h g k;exact g _ _ _ k
 | seq a b m i=>
   intro Q Q' T h g k
   refine m (λe T h q=>?_) k
   cases e<;>first
    | exact i g q
    | exact g _ _ _ q
 | region id ops d=>
   intro Q Q' T h g k
   cases d with
   | false=>exact kaa (g _) _ k
   | true=>exact Zv g k
 | cond x a b m i=>
   intro Q Q' T h g k
   unfold wpC Yy at k⊢
   split at k
   ·exact qIa (m g) (i g) k
   ·exact k.elim
 | block id c n=>
   intro Q Q' T h g k
   refine n (λe T h q=>?_) k
   cases e<;>try exact g _ _ _ q
   rename_i j
   by_cases o:j=id
   ·rw[YC,if_pos o] at q ⊢;exact g _ _ _ q
   ·rw[YC,if_neg o] at q ⊢;exact g _ _ _ q
 | loop c n=>intro Q Q' T h g k;exact Zv g k
 | exit id=>intro Q Q' T h g k;exact g _ _ _ k
 | ret=>intro Q Q' T h g k;exact g _ _ _ k
 | rangeFunc f p a b _ _=>intro Q Q' T h g k;exact Zv g k
 | scope b _=>intro Q Q' T h g k;exact Zv g k
 | goto l=>intro Q Q' T h g k;exact Zv g k
 | refuse w=>intro Q Q' T h g k;exact Zv g k
theorem w9{a b:Code}(S:Env->List Ob->Prop)(c:wpC P N B a (yS S Q) T h)(d:∀T h,S T h->wpC P N B b Q T h):wpC P N B (.seq a b) Q T h:=by
 refine Xra a (λe T h q=>?_) c
 cases e<;>first
  | exact d _ _ q
  | exact q
theorem kba{K K':Env->List Ob->Prop}:yS K (yS K' Q)=yS K Q:=by
 funext e T h
 cases e<;>rfl
theorem xM{a b c:Code}:wpC P N B (.seq a (.seq b c)) Q T h=wpC P N B (.seq (.seq a b) c) Q T h:=by
 rw[KR,KR,KR,kba]
 rfl
theorem YU{c:Code}(S:Env->List Ob->Prop)(a:(∀T h,S T h->AWp P N B c Q T h)->AWp P N B c Q T h)(k:∀T h,S T h-> @Z7 P N B ⟨(c,Q)⟩ T h): @Z7 P N B ⟨(c,Q)⟩ T h:=a k
end
