/-
  Joined.
-/
import Derived.Test.YtigdlmpjijhpaaaGreatK04
import Derived.Test.YtigdlmpjijhpaaaGreatProg
import Derived.Test.YtigdlmpjijhpaaaGreatK10
set_option linter.unusedSimpArgs false
set_option linter.unusedVariables false
namespace Go.Proofs.YtigdlmpjijhpaaaGreat.Ax
open Go Go.Proofs
set_option maxRecDepth 100000
theorem ty3:zi Tryz.prog 3=⟨true,false,1,8,some [.int .i64 0],true,.int .i64⟩:=id rfl
theorem ty4:zi Tryz.prog 4=⟨true,false,1,1,some [.bool false],true,.bool⟩:=id rfl
theorem ty5:zi Tryz.prog 5=⟨true,false,1,1,some [.int .u8 0],true,.int .u8⟩:=id rfl
theorem ty9:zi Tryz.prog 9=⟨true,false,1,16,some [.string ⟨#[]⟩],true,.str⟩:=id rfl
theorem JAa:zi Tryz.prog 20=⟨true,false,1,16,some [.nilIface],true,.other⟩:=id rfl
theorem v3a:zi Tryz.prog 22=⟨true,false,1,24,some [.slice none 0 0],true,.slice 225⟩:=id rfl
theorem v4a:zi Tryz.prog 24=⟨true,true,2,16,some [.int .i64 0,.int .i64 0],false,.struct [(0,3),(1,3)]⟩:=id rfl
theorem v5a:zi Tryz.prog 25=⟨true,false,1,24,some [.slice none 0 0],true,.slice 183⟩:=id rfl
theorem xPa:zi Tryz.prog 26=⟨true,false,1,24,some [.slice none 0 0],true,.slice 24⟩:=id rfl
theorem jla:zi Tryz.prog 27=⟨true,false,1,24,some [.slice none 0 0],true,.slice 3⟩:=id rfl
theorem v6a:zi Tryz.prog 28=⟨true,false,1,24,some [.slice none 0 0],true,.slice 185⟩:=id rfl
theorem Z3a:zi Tryz.prog 30=⟨true,true,23,280,some [.int .i64 0,.slice none 0 0,.int .i64 0,.int .i64 0,.slice none 0 0,.slice none 0 0,.slice none 0 0,.int .i64 0,.int .i64 0,.int .i64 0,.int .i64 0,.int .i64 0,.int .i64 0,.int .i64 0,.int .i64 0,.int .i64 0,.int .i64 0,.int .i64 0,.slice none 0 0,.int .i64 0,.int .i64 0,.int .i64 0,.slice none 0 0],false,.struct [(0,3),(1,22),(2,24),(4,25),(5,26),(6,26),(7,3),(8,3),(9,3),(10,3),(11,3),(12,3),(13,3),(14,3),(15,3),(16,3),(17,3),(18,27),(19,3),(20,3),(21,3),(22,28)]⟩:=id rfl
theorem v7a:zi Tryz.prog 31=⟨true,false,1,24,some [.slice none 0 0],true,.slice 75⟩:=id rfl
theorem JBa:zi Tryz.prog 32=⟨true,false,1,24,some [.slice none 0 0],true,.slice 45⟩:=id rfl
theorem JCa:zi Tryz.prog 33=⟨true,false,1,24,some [.slice none 0 0],true,.slice 5⟩:=id rfl
theorem y2a:zi Tryz.prog 37=⟨true,false,1,8,some [.int .i64 0],true,.int .i64⟩:=id rfl
theorem JDa:zi Tryz.prog 42=⟨true,true,7,56,some [.int .i64 0,.int .i64 0,.int .i64 0,.int .i64 0,.int .i64 0,.int .i64 0,.int .i64 0],false,.arr 7 3⟩:=id rfl
theorem Z4a:zi Tryz.prog 43=⟨true,false,1,24,some [.slice none 0 0],true,.slice 105⟩:=id rfl
theorem JEa:zi Tryz.prog 45=⟨true,true,27,232,some [.int .i64 0,.int .i64 0,.int .i64 0,.int .i64 0,.int .i64 0,.int .i64 0,.int .i64 0,.int .i64 0,.int .i64 0,.int .i64 0,.int .i64 0,.int .i64 0,.int .i64 0,.int .i64 0,.int .i64 0,.int .i64 0,.int .i64 0,.int .i64 0,.int .i64 0,.int .i64 0,.int .i64 0,.int .i64 0,.int .i64 0,.int .i64 0,.int .i64 0,.int .i64 0,.slice none 0 0],false,.struct [(0,3),(1,3),(2,37),(3,42),(10,42),(17,24),(19,24),(21,3),(22,3),(23,3),(24,3),(25,3),(26,43)]⟩:=id rfl
theorem Z5a:zi Tryz.prog 51=⟨true,false,1,24,some [.slice none 0 0],true,.slice 146⟩:=id rfl
theorem Z6a:zi Tryz.prog 55=⟨true,false,1,24,some [.slice none 0 0],true,.slice 143⟩:=id rfl
theorem JFa:zi Tryz.prog 58=⟨true,false,1,2,some [.int .u16 0],true,.int .u16⟩:=id rfl
theorem JGa:zi Tryz.prog 61=⟨true,false,1,24,some [.slice none 0 0],true,.slice 79⟩:=id rfl
theorem JHa:zi Tryz.prog 63=⟨true,true,25,328,some [.int .i64 0,.slice none 0 0,.int .i64 0,.int .i64 0,.slice none 0 0,.slice none 0 0,.slice none 0 0,.int .i64 0,.int .i64 0,.int .i64 0,.int .i64 0,.int .i64 0,.int .i64 0,.int .i64 0,.int .i64 0,.int .i64 0,.int .i64 0,.int .i64 0,.slice none 0 0,.int .i64 0,.int .i64 0,.int .i64 0,.slice none 0 0,.slice none 0 0,.slice none 0 0],false,.struct [(0,30),(23,31),(24,27)]⟩:=id rfl
theorem JIa:zi Tryz.prog 67=⟨true,false,1,24,some [.slice none 0 0],true,.slice 71⟩:=id rfl
theorem JJa:zi Tryz.prog 71=⟨true,true,4,80,some [.int .i64 0,.slice none 0 0,.slice none 0 0,.slice none 0 0],false,.struct [(0,37),(1,32),(2,51),(3,33)]⟩:=id rfl
theorem v8a:zi Tryz.prog 75=⟨true,true,11,88,some [.int .i64 0,.int .i64 0,.int .i64 0,.int .i64 0,.int .i64 0,.int .i64 0,.int .i64 0,.int .i64 0,.int .i64 0,.int .i64 0,.int .i64 0],false,.struct [(0,3),(1,3),(2,3),(3,3),(4,3),(5,3),(6,3),(7,3),(8,3),(9,3),(10,3)]⟩:=id rfl
theorem JKa:zi Tryz.prog 77=⟨true,true,12,96,some [.int .i64 0,.int .i64 0,.int .i64 0,.int .i64 0,.int .i64 0,.int .i64 0,.int .i64 0,.int .i64 0,.int .i64 0,.int .i64 0,.int .i64 0,.int .i64 0],false,.struct [(0,3),(1,75)]⟩:=id rfl
theorem JLa:zi Tryz.prog 79=⟨true,true,16,128,some [.int .i64 0,.int .i64 0,.int .i64 0,.int .i64 0,.int .i64 0,.int .i64 0,.int .i64 0,.int .i64 0,.int .i64 0,.int .i64 0,.int .i64 0,.int .i64 0,.int .i64 0,.int .i64 0,.int .i64 0,.int .i64 0],false,.struct [(0,3),(1,77),(13,3),(14,3),(15,3)]⟩:=id rfl
theorem JMa:zi Tryz.prog 83=⟨true,true,26,352,some [.int .i64 0,.slice none 0 0,.int .i64 0,.int .i64 0,.slice none 0 0,.slice none 0 0,.slice none 0 0,.int .i64 0,.int .i64 0,.int .i64 0,.int .i64 0,.int .i64 0,.int .i64 0,.int .i64 0,.int .i64 0,.int .i64 0,.int .i64 0,.int .i64 0,.slice none 0 0,.int .i64 0,.int .i64 0,.int .i64 0,.slice none 0 0,.slice none 0 0,.slice none 0 0,.slice none 0 0],false,.struct [(0,63),(25,32)]⟩:=id rfl
theorem JNa:zi Tryz.prog 86=⟨true,false,1,24,some [.slice none 0 0],true,.slice 92⟩:=id rfl
theorem JOa:zi Tryz.prog 90=⟨true,true,2,16,some [.int .i64 0,.int .i64 0],false,.struct [(0,3),(1,3)]⟩:=id rfl
theorem JPa:zi Tryz.prog 92=⟨true,false,1,24,some [.slice none 0 0],true,.slice 90⟩:=id rfl
theorem yra:zi Tryz.prog 105=⟨true,true,2,16,some [.int .i64 0,.int .i64 0],false,.struct [(0,3),(1,3)]⟩:=id rfl
theorem Z7a:zi Tryz.prog 107=⟨true,true,2,32,some [.slice none 0 0,.bool false],false,.struct [(0,33),(1,4)]⟩:=id rfl
theorem Z8a:zi Tryz.prog 108=⟨true,false,1,8,some [.nilFunc],true,.other⟩:=id rfl
theorem ysa:zi Tryz.prog 109=⟨true,false,1,8,some [.pointer none],true,.ptr 3⟩:=id rfl
theorem Z9a:zi Tryz.prog 111=⟨true,false,1,8,some [.pointer none],true,.ptr 107⟩:=id rfl
theorem Qaa:zi Tryz.prog 113=⟨true,true,0,0,some [],false,.struct []⟩:=id rfl
theorem Qba:zi Tryz.prog 116=⟨true,true,2,32,some [.slice none 0 0,.bool false],false,.struct [(0,107)]⟩:=id rfl
theorem Qca:zi Tryz.prog 119=⟨true,false,1,8,some [.pointer none],true,.ptr 45⟩:=id rfl
theorem Qda:zi Tryz.prog 124=⟨true,false,1,8,some [.nilFunc],true,.other⟩:=id rfl
theorem Qea:zi Tryz.prog 126=⟨true,false,1,24,some [.slice none 0 0],true,.slice 194⟩:=id rfl
theorem yta:zi Tryz.prog 135=⟨true,false,1,8,some [.pointer none],true,.ptr 138⟩:=id rfl
theorem yua:zi Tryz.prog 136=⟨true,false,1,8,some [.pointer none],true,.ptr 236⟩:=id rfl
theorem yva:zi Tryz.prog 138=⟨true,true,26,336,some [.int .i64 0,.slice none 0 0,.int .i64 0,.int .i64 0,.slice none 0 0,.slice none 0 0,.slice none 0 0,.int .i64 0,.int .i64 0,.int .i64 0,.int .i64 0,.int .i64 0,.int .i64 0,.int .i64 0,.int .i64 0,.int .i64 0,.int .i64 0,.int .i64 0,.slice none 0 0,.int .i64 0,.int .i64 0,.int .i64 0,.slice none 0 0,.pointer none,.slice none 0 0,.slice none 0 0],false,.struct [(0,30),(23,136),(24,51),(25,43)]⟩:=id rfl
theorem ywa:zi Tryz.prog 143=⟨true,true,2,16,some [.int .i64 0,.int .i64 0],false,.struct [(0,3),(1,3)]⟩:=id rfl
theorem yxa:zi Tryz.prog 146=⟨true,true,5,40,some [.int .i64 0,.int .i64 0,.int .i64 0,.int .i64 0,.int .i64 0],false,.struct [(0,3),(1,3),(2,3),(3,3),(4,3)]⟩:=id rfl
theorem yya:zi Tryz.prog 147=⟨true,false,1,8,some [.nilFunc],true,.other⟩:=id rfl
theorem Qfa:zi Tryz.prog 150=⟨true,false,1,8,some [.nilFunc],true,.other⟩:=id rfl
theorem Qga:zi Tryz.prog 151=⟨true,false,1,8,some [.pointer none],true,.ptr 154⟩:=id rfl
theorem Qha:zi Tryz.prog 152=⟨true,false,1,8,some [.map none],true,.mapk 3 150⟩:=id rfl
theorem Qia:zi Tryz.prog 154=⟨true,true,45,536,some [.int .i64 0,.slice none 0 0,.int .i64 0,.int .i64 0,.slice none 0 0,.slice none 0 0,.slice none 0 0,.int .i64 0,.int .i64 0,.int .i64 0,.int .i64 0,.int .i64 0,.int .i64 0,.int .i64 0,.int .i64 0,.int .i64 0,.int .i64 0,.int .i64 0,.slice none 0 0,.int .i64 0,.int .i64 0,.int .i64 0,.slice none 0 0,.slice none 0 0,.slice none 0 0,.int .i64 0,.slice none 0 0,.slice none 0 0,.slice none 0 0,.int .i64 0,.int .i64 0,.int .i64 0,.int .i64 0,.int .i64 0,.int .i64 0,.int .i64 0,.int .i64 0,.int .i64 0,.int .i64 0,.int .i64 0,.int .i64 0,.int .i64 0,.int .i64 0,.int .i64 0,.int .i64 0],false,.struct [(0,63),(25,71),(29,79)]⟩:=id rfl
theorem Qja:zi Tryz.prog 158=⟨true,false,1,8,some [.pointer none],true,.ptr 161⟩:=id rfl
theorem Qka:zi Tryz.prog 161=⟨true,true,27,376,some [.int .i64 0,.slice none 0 0,.int .i64 0,.int .i64 0,.slice none 0 0,.slice none 0 0,.slice none 0 0,.int .i64 0,.int .i64 0,.int .i64 0,.int .i64 0,.int .i64 0,.int .i64 0,.int .i64 0,.int .i64 0,.int .i64 0,.int .i64 0,.int .i64 0,.slice none 0 0,.int .i64 0,.int .i64 0,.int .i64 0,.slice none 0 0,.slice none 0 0,.slice none 0 0,.slice none 0 0,.slice none 0 0],false,.struct [(0,83),(26,92)]⟩:=id rfl
theorem Qla:zi Tryz.prog 162=⟨true,false,1,8,some [.nilFunc],true,.other⟩:=id rfl
theorem Qma:zi Tryz.prog 165=⟨true,false,1,8,some [.nilFunc],true,.other⟩:=id rfl
theorem Qna:zi Tryz.prog 166=⟨true,false,1,8,some [.map none],true,.mapk 90 3⟩:=id rfl
theorem Qoa:zi Tryz.prog 171=⟨true,true,12,96,some [.int .i64 0,.int .i64 0,.int .i64 0,.int .i64 0,.int .i64 0,.int .i64 0,.int .i64 0,.int .i64 0,.int .i64 0,.int .i64 0,.int .i64 0,.int .i64 0],false,.struct [(0,3),(1,75)]⟩:=id rfl
theorem Qpa:zi Tryz.prog 173=⟨true,false,1,8,some [.nilFunc],true,.other⟩:=id rfl
theorem Qqa:zi Tryz.prog 176=⟨true,false,1,8,some [.nilFunc],true,.other⟩:=id rfl
theorem xQa:zi Tryz.prog 183=⟨true,true,4,32,some [.int .i64 0,.int .i64 0,.int .i64 0,.int .i64 0],false,.struct [(0,24),(2,24)]⟩:=id rfl
theorem xRa:zi Tryz.prog 185=⟨true,true,2,16,some [.int .i64 0,.int .i64 0],false,.struct [(0,3),(1,3)]⟩:=id rfl
theorem yza:zi Tryz.prog 186=⟨true,false,1,24,some [.slice none 0 0],true,.slice 109⟩:=id rfl
theorem Qra:zi Tryz.prog 187=⟨true,false,1,8,some [.pointer none],true,.ptr 116⟩:=id rfl
theorem Qsa:zi Tryz.prog 191=⟨true,false,1,8,some [.nilFunc],true,.other⟩:=id rfl
theorem Qta:zi Tryz.prog 194=⟨true,true,3,24,some [.int .i64 0,.int .i64 0,.int .i64 0],false,.struct [(0,3),(1,3),(2,3)]⟩:=id rfl
theorem Qua:zi Tryz.prog 201=⟨true,true,3,72,some [.slice none 0 0,.slice none 0 0,.slice none 0 0],false,.arr 3 55⟩:=id rfl
theorem Qva:zi Tryz.prog 206=⟨true,false,1,8,some [.nilFunc],true,.other⟩:=id rfl
theorem yAa:zi Tryz.prog 210=⟨true,true,3,24,some [.int .i64 0,.int .i64 0,.int .i64 0],false,.struct [(0,24),(2,37)]⟩:=id rfl
theorem Qwa:zi Tryz.prog 217=⟨true,false,1,8,some [.nilFunc],true,.other⟩:=id rfl
theorem Qxa:zi Tryz.prog 218=⟨true,false,1,8,some [.nilFunc],true,.other⟩:=id rfl
theorem xSa:zi Tryz.prog 225=⟨true,true,3,24,some [.int .i64 0,.int .i64 0,.int .i64 0],false,.struct [(0,3),(1,3),(2,3)]⟩:=id rfl
theorem Qya:zi Tryz.prog 227=⟨true,false,1,8,some [.nilFunc],true,.other⟩:=id rfl
theorem Qza:zi Tryz.prog 230=⟨true,false,1,8,some [.nilFunc],true,.other⟩:=id rfl
theorem QAa:zi Tryz.prog 232=⟨true,false,1,8,some [.nilFunc],true,.other⟩:=id rfl
theorem yBa:zi Tryz.prog 236=⟨true,true,12,112,some [.int .i64 0,.int .i64 0,.int .i64 0,.int .i64 0,.int .i64 0,.int .i64 0,.int .i64 0,.int .i64 0,.int .i64 0,.int .i64 0,.int .i64 0,.slice none 0 0],false,.struct [(0,75),(11,31)]⟩:=id rfl
theorem yCa:zi Tryz.prog 238=⟨true,false,1,8,some [.nilFunc],true,.other⟩:=id rfl
theorem QBa:zi Tryz.prog 241=⟨true,false,1,8,some [.int .u64 0],true,.int .u64⟩:=id rfl
theorem QCa:zi Tryz.prog 250=⟨true,false,1,8,some [.nilFunc],true,.other⟩:=id rfl
theorem xTa:zi Tryz.prog 258=⟨true,false,1,8,some [.int .u64 0],true,.int .u64⟩:=id rfl
theorem yDa:zi Tryz.prog 265=⟨true,false,1,8,some [.pointer none],true,.ptr 75⟩:=id rfl
theorem QDa:zi Tryz.prog 284=⟨true,false,1,8,some [.nilFunc],true,.other⟩:=id rfl
theorem QEa:zi Tryz.prog 301=⟨true,false,1,8,some [.int .i64 0],true,.int .i64⟩:=id rfl
theorem QFa:zi Tryz.prog 308=⟨true,false,1,4,some [.int .u32 0],true,.int .u32⟩:=id rfl
theorem yEa:zi Tryz.prog 311=⟨true,false,1,8,some [.map none],true,.mapk 3 186⟩:=id rfl
theorem QGa:zi Tryz.prog 315=⟨true,false,1,24,some [.slice none 0 0],true,.slice 55⟩:=id rfl
theorem yFa:zi Tryz.prog 322=⟨true,false,1,24,some [.slice none 0 0],true,.slice 27⟩:=id rfl
theorem QHa:zi Tryz.prog 335=⟨true,false,1,8,some [.int .u64 0],true,.int .u64⟩:=id rfl
theorem y3a:qU Tryz.prog 24=true:=by unfold qU;rw[Tryz.eqGuardType24,Tryz.stoodInHeld24];rfl
theorem QIa:qU Tryz.prog 75=true:=by unfold qU;rw[Tryz.eqGuardType75,Tryz.stoodInHeld75];rfl
theorem JQa:qU Tryz.prog 90=true:=by unfold qU;rw[Tryz.eqGuardType90,Tryz.stoodInHeld90];rfl
theorem yGa:qU Tryz.prog 105=true:=by unfold qU;rw[Tryz.eqGuardType105,Tryz.stoodInHeld105];rfl
theorem yHa:qU Tryz.prog 146=true:=by unfold qU;rw[Tryz.eqGuardType146,Tryz.stoodInHeld146];rfl
end Go.Proofs.YtigdlmpjijhpaaaGreat.Ax
namespace Go.Proofs.YtigdlmpjijhpaaaGreat.Ax
open Go Go.RowKit
section
variable {P:Program} {N:Nat} {B:Bs} {T:Env} {h:List Ob} {Q Q':jr}
theorem K1 {b:Bool} {p q c a:Prop} (d:p->c) (f:q->a) (k: @JL b ⟨p⟩ ⟨q⟩): @JL b ⟨c⟩ ⟨a⟩:=⟨λe=>d (k.1 e),λe=>f (k.2 e)⟩
theorem K2 {o:Oper} {K K':Env->List Ob->Prop} (b:∀T h,K T h->K' T h) (k:JM P T h o K):JM P T h o K':=by
 unfold JM at k⊢
 cases c:zI o.op with
 | some q=>
   rw[c] at k
   simp only[KQ] at k⊢
   split at k
   ·exact ACalls.mono k λr h'=>b _ _
   ·split at k
    ·rename_i a
     simp only[if_pos a]
     exact yI k λh'=>b _ _
    ·exact k.elim
   ·exact k.elim
 | none=>
   rw[c] at k
   simp only[Xj] at k⊢
   split at k
   ·exact b _ _ k
   ·exact k.elim
theorem WX {ops:Array Oper} {K K':Env->List Ob->Prop} (c:∀T h,K T h->K' T h):∀(l:List Oper) {T:Env} {h:List Ob},wpR P ops K l T h->wpR P ops K' l T h
 | [],_,_,k=>c _ _ k
 | o::r,T,h,k=>by
   have a:∀T h,wpR P ops K r T h->wpR P ops K' r T h:=λT h=>WX c r
   unfold wpR at k⊢
   cases b:o.guard with
   | none=>simp only[b] at k ⊢;exact K2 a k
   | some q=>
     obtain ⟨j,d⟩:=q
     simp only[b] at k⊢
     unfold xR at k⊢
     split at k
     ·exact K1 (K2 a) (a _ _) k
     ·exact a _ _ k
     ·exact k.elim
theorem vz {c:Code} (a:∀e T h,Q e T h->Q' e T h) (k: @wm P N B ⟨(c,Q)⟩ T h): @wm P N B ⟨(c,Q')⟩ T h:=AWp.mono k a
theorem kMa:∀(c:Code) {Q Q':jr} {T:Env} {h:List Ob},(∀e T h,Q e T h->Q' e T h)->wpC P N B c Q T h->wpC P N B c Q' T h:=by
 intro c
 induction c with
 | skip=>intro Q Q' T h g k;exact g _ _ _ k
 | label l=>intro Q Q' T h g k;exact g _ _ _ k
 | seq a b m i=>
   intro Q Q' T h g k
   refine m (λe T h q=>?_) k
   cases e<;>first
    | exact i g q
    | exact g _ _ _ q
 | region id ops d=>
   intro Q Q' T h g k
   cases d with
   | false=>exact WX (g _) _ k
   | true=>exact vz g k
 | cond x a b m i=>
   intro Q Q' T h g k
   unfold wpC Xi at k⊢
   split at k
   ·exact K1 (m g) (i g) k
   ·exact k.elim
 | block id c o=>
   intro Q Q' T h g k
   refine o (λe T h q=>?_) k
   cases e<;>try exact g _ _ _ q
   rename_i j
   by_cases n:j=id
   ·rw[Xl,if_pos n] at q ⊢;exact g _ _ _ q
   ·rw[Xl,if_neg n] at q ⊢;exact g _ _ _ q
 | loop c o=>intro Q Q' T h g k;exact vz g k
 | exit id=>intro Q Q' T h g k;exact g _ _ _ k
 | ret=>intro Q Q' T h g k;exact g _ _ _ k
 | rangeFunc f p a b _ _=>intro Q Q' T h g k;exact vz g k
 | scope b _=>intro Q Q' T h g k;exact vz g k
 | goto l=>intro Q Q' T h g k;exact vz g k
 | refuse w=>intro Q Q' T h g k;exact vz g k
theorem w8 {a b:Code} (S:Env->List Ob->Prop) (c:wpC P N B a (kO S Q) T h) (d:∀T h,S T h->wpC P N B b Q T h):wpC P N B (.seq a b) Q T h:=by
 refine kMa a (λe T h q=>?_) c
 cases e<;>first
  | exact d _ _ q
  | exact q
theorem WY {K K':Env->List Ob->Prop}:kO K (kO K' Q)=kO K Q:=by
 funext e T h
 cases e<;>rfl
theorem qZ {a b c:Code}:wpC P N B (.seq a (.seq b c)) Q T h=wpC P N B (.seq (.seq a b) c) Q T h:=by
 rw[Qj,Qj,Qj,WY]
 rfl
theorem zFa {c:Code} (S:Env->List Ob->Prop) (a:(∀T h,S T h->AWp P N B c Q T h)->AWp P N B c Q T h) (k:∀T h,S T h-> @wm P N B ⟨(c,Q)⟩ T h): @wm P N B ⟨(c,Q)⟩ T h:=a k
end
end Go.Proofs.YtigdlmpjijhpaaaGreat.Ax
