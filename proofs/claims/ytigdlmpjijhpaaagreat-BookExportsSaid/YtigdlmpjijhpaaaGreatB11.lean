import Derived.Test.YtigdlmpjijhpaaaGreatBA
import Derived.Test.YtigdlmpjijhpaaaGreatB04
import Derived.Test.YtigdlmpjijhpaaaGreatProg
import Derived.Test.YtigdlmpjijhpaaaGreatB10
set_option linter.all false
namespace Go.Proofs.YtigdlmpjijhpaaaGreat.Ax
open Go Go.Proofs
set_option maxRecDepth 100000
theorem ty3:zO Tryz.prog 3=⟨true,false,1,8,some [.int .i64 0],true,.int .i64⟩:=id rfl
theorem ty4:zO Tryz.prog 4=⟨true,false,1,1,some [.bool false],true,.bool⟩:=id rfl
theorem ty5:zO Tryz.prog 5=⟨true,false,1,1,some [.int .u8 0],true,.int .u8⟩:=id rfl
theorem ty9:zO Tryz.prog 9=⟨true,false,1,16,some [.string ⟨#[]⟩],true,.str⟩:=id rfl
theorem jNb:zO Tryz.prog 20=⟨true,false,1,16,some [.nilIface],true,.other⟩:=id rfl
theorem KGa:zO Tryz.prog 22=⟨true,false,1,24,some [.slice none 0 0],true,.slice 225⟩:=id rfl
theorem KHa:zO Tryz.prog 24=⟨true,true,2,16,some [.int .i64 0,.int .i64 0],false,.struct [(0,3),(1,3)]⟩:=id rfl
theorem KIa:zO Tryz.prog 25=⟨true,false,1,24,some [.slice none 0 0],true,.slice 183⟩:=id rfl
theorem Q2a:zO Tryz.prog 26=⟨true,false,1,24,some [.slice none 0 0],true,.slice 24⟩:=id rfl
theorem Zla:zO Tryz.prog 27=⟨true,false,1,24,some [.slice none 0 0],true,.slice 3⟩:=id rfl
theorem KJa:zO Tryz.prog 28=⟨true,false,1,24,some [.slice none 0 0],true,.slice 185⟩:=id rfl
theorem zNb:zO Tryz.prog 30=⟨true,true,23,280,some [.int .i64 0,.slice none 0 0,.int .i64 0,.int .i64 0,.slice none 0 0,.slice none 0 0,.slice none 0 0,.int .i64 0,.int .i64 0,.int .i64 0,.int .i64 0,.int .i64 0,.int .i64 0,.int .i64 0,.int .i64 0,.int .i64 0,.int .i64 0,.int .i64 0,.slice none 0 0,.int .i64 0,.int .i64 0,.int .i64 0,.slice none 0 0],false,.struct [(0,3),(1,22),(2,24),(4,25),(5,26),(6,26),(7,3),(8,3),(9,3),(10,3),(11,3),(12,3),(13,3),(14,3),(15,3),(16,3),(17,3),(18,27),(19,3),(20,3),(21,3),(22,28)]⟩:=id rfl
theorem KKa:zO Tryz.prog 31=⟨true,false,1,24,some [.slice none 0 0],true,.slice 75⟩:=id rfl
theorem jOb:zO Tryz.prog 32=⟨true,false,1,24,some [.slice none 0 0],true,.slice 45⟩:=id rfl
theorem jPb:zO Tryz.prog 33=⟨true,false,1,24,some [.slice none 0 0],true,.slice 5⟩:=id rfl
theorem Yia:zO Tryz.prog 37=⟨true,false,1,8,some [.int .i64 0],true,.int .i64⟩:=id rfl
theorem jQb:zO Tryz.prog 42=⟨true,true,7,56,some [.int .i64 0,.int .i64 0,.int .i64 0,.int .i64 0,.int .i64 0,.int .i64 0,.int .i64 0],false,.arr 7 3⟩:=id rfl
theorem zOb:zO Tryz.prog 43=⟨true,false,1,24,some [.slice none 0 0],true,.slice 105⟩:=id rfl
theorem jRb:zO Tryz.prog 45=⟨true,true,27,232,some [.int .i64 0,.int .i64 0,.int .i64 0,.int .i64 0,.int .i64 0,.int .i64 0,.int .i64 0,.int .i64 0,.int .i64 0,.int .i64 0,.int .i64 0,.int .i64 0,.int .i64 0,.int .i64 0,.int .i64 0,.int .i64 0,.int .i64 0,.int .i64 0,.int .i64 0,.int .i64 0,.int .i64 0,.int .i64 0,.int .i64 0,.int .i64 0,.int .i64 0,.int .i64 0,.slice none 0 0],false,.struct [(0,3),(1,3),(2,37),(3,42),(10,42),(17,24),(19,24),(21,3),(22,3),(23,3),(24,3),(25,3),(26,43)]⟩:=id rfl
theorem zPb:zO Tryz.prog 51=⟨true,false,1,24,some [.slice none 0 0],true,.slice 146⟩:=id rfl
theorem zQb:zO Tryz.prog 55=⟨true,false,1,24,some [.slice none 0 0],true,.slice 143⟩:=id rfl
theorem jSb:zO Tryz.prog 58=⟨true,false,1,2,some [.int .u16 0],true,.int .u16⟩:=id rfl
theorem jTb:zO Tryz.prog 61=⟨true,false,1,24,some [.slice none 0 0],true,.slice 79⟩:=id rfl
theorem jUb:zO Tryz.prog 63=⟨true,true,25,328,some [.int .i64 0,.slice none 0 0,.int .i64 0,.int .i64 0,.slice none 0 0,.slice none 0 0,.slice none 0 0,.int .i64 0,.int .i64 0,.int .i64 0,.int .i64 0,.int .i64 0,.int .i64 0,.int .i64 0,.int .i64 0,.int .i64 0,.int .i64 0,.int .i64 0,.slice none 0 0,.int .i64 0,.int .i64 0,.int .i64 0,.slice none 0 0,.slice none 0 0,.slice none 0 0],false,.struct [(0,30),(23,31),(24,27)]⟩:=id rfl
theorem jVb:zO Tryz.prog 67=⟨true,false,1,24,some [.slice none 0 0],true,.slice 71⟩:=id rfl
theorem jWb:zO Tryz.prog 71=⟨true,true,4,80,some [.int .i64 0,.slice none 0 0,.slice none 0 0,.slice none 0 0],false,.struct [(0,37),(1,32),(2,51),(3,33)]⟩:=id rfl
theorem KLa:zO Tryz.prog 75=⟨true,true,11,88,some [.int .i64 0,.int .i64 0,.int .i64 0,.int .i64 0,.int .i64 0,.int .i64 0,.int .i64 0,.int .i64 0,.int .i64 0,.int .i64 0,.int .i64 0],false,.struct [(0,3),(1,3),(2,3),(3,3),(4,3),(5,3),(6,3),(7,3),(8,3),(9,3),(10,3)]⟩:=id rfl
theorem jXb:zO Tryz.prog 77=⟨true,true,12,96,some [.int .i64 0,.int .i64 0,.int .i64 0,.int .i64 0,.int .i64 0,.int .i64 0,.int .i64 0,.int .i64 0,.int .i64 0,.int .i64 0,.int .i64 0,.int .i64 0],false,.struct [(0,3),(1,75)]⟩:=id rfl
theorem jYb:zO Tryz.prog 79=⟨true,true,16,128,some [.int .i64 0,.int .i64 0,.int .i64 0,.int .i64 0,.int .i64 0,.int .i64 0,.int .i64 0,.int .i64 0,.int .i64 0,.int .i64 0,.int .i64 0,.int .i64 0,.int .i64 0,.int .i64 0,.int .i64 0,.int .i64 0],false,.struct [(0,3),(1,77),(13,3),(14,3),(15,3)]⟩:=id rfl
theorem jZb:zO Tryz.prog 83=⟨true,true,26,352,some [.int .i64 0,.slice none 0 0,.int .i64 0,.int .i64 0,.slice none 0 0,.slice none 0 0,.slice none 0 0,.int .i64 0,.int .i64 0,.int .i64 0,.int .i64 0,.int .i64 0,.int .i64 0,.int .i64 0,.int .i64 0,.int .i64 0,.int .i64 0,.int .i64 0,.slice none 0 0,.int .i64 0,.int .i64 0,.int .i64 0,.slice none 0 0,.slice none 0 0,.slice none 0 0,.slice none 0 0],false,.struct [(0,63),(25,32)]⟩:=id rfl
theorem j0b:zO Tryz.prog 86=⟨true,false,1,24,some [.slice none 0 0],true,.slice 92⟩:=id rfl
theorem zRb:zO Tryz.prog 90=⟨true,true,2,16,some [.int .i64 0,.int .i64 0],false,.struct [(0,3),(1,3)]⟩:=id rfl
theorem j1b:zO Tryz.prog 92=⟨true,false,1,24,some [.slice none 0 0],true,.slice 90⟩:=id rfl
theorem WHa:zO Tryz.prog 105=⟨true,true,2,16,some [.int .i64 0,.int .i64 0],false,.struct [(0,3),(1,3)]⟩:=id rfl
theorem zSb:zO Tryz.prog 107=⟨true,true,2,32,some [.slice none 0 0,.bool false],false,.struct [(0,33),(1,4)]⟩:=id rfl
theorem zTb:zO Tryz.prog 108=⟨true,false,1,8,some [.nilFunc],true,.other⟩:=id rfl
theorem WIa:zO Tryz.prog 109=⟨true,false,1,8,some [.pointer none],true,.ptr 3⟩:=id rfl
theorem zUb:zO Tryz.prog 111=⟨true,false,1,8,some [.pointer none],true,.ptr 107⟩:=id rfl
theorem zVb:zO Tryz.prog 113=⟨true,true,0,0,some [],false,.struct []⟩:=id rfl
theorem zWb:zO Tryz.prog 116=⟨true,true,2,32,some [.slice none 0 0,.bool false],false,.struct [(0,107)]⟩:=id rfl
theorem zXb:zO Tryz.prog 119=⟨true,false,1,8,some [.pointer none],true,.ptr 45⟩:=id rfl
theorem zYb:zO Tryz.prog 124=⟨true,false,1,8,some [.nilFunc],true,.other⟩:=id rfl
theorem zZb:zO Tryz.prog 126=⟨true,false,1,24,some [.slice none 0 0],true,.slice 194⟩:=id rfl
theorem WJa:zO Tryz.prog 135=⟨true,false,1,8,some [.pointer none],true,.ptr 138⟩:=id rfl
theorem WKa:zO Tryz.prog 136=⟨true,false,1,8,some [.pointer none],true,.ptr 236⟩:=id rfl
theorem WLa:zO Tryz.prog 138=⟨true,true,26,336,some [.int .i64 0,.slice none 0 0,.int .i64 0,.int .i64 0,.slice none 0 0,.slice none 0 0,.slice none 0 0,.int .i64 0,.int .i64 0,.int .i64 0,.int .i64 0,.int .i64 0,.int .i64 0,.int .i64 0,.int .i64 0,.int .i64 0,.int .i64 0,.int .i64 0,.slice none 0 0,.int .i64 0,.int .i64 0,.int .i64 0,.slice none 0 0,.pointer none,.slice none 0 0,.slice none 0 0],false,.struct [(0,30),(23,136),(24,51),(25,43)]⟩:=id rfl
theorem WMa:zO Tryz.prog 143=⟨true,true,2,16,some [.int .i64 0,.int .i64 0],false,.struct [(0,3),(1,3)]⟩:=id rfl
theorem WNa:zO Tryz.prog 146=⟨true,true,5,40,some [.int .i64 0,.int .i64 0,.int .i64 0,.int .i64 0,.int .i64 0],false,.struct [(0,3),(1,3),(2,3),(3,3),(4,3)]⟩:=id rfl
theorem WOa:zO Tryz.prog 147=⟨true,false,1,8,some [.nilFunc],true,.other⟩:=id rfl
theorem z0b:zO Tryz.prog 150=⟨true,false,1,8,some [.nilFunc],true,.other⟩:=id rfl
theorem z1b:zO Tryz.prog 151=⟨true,false,1,8,some [.pointer none],true,.ptr 154⟩:=id rfl
theorem z2b:zO Tryz.prog 152=⟨true,false,1,8,some [.map none],true,.mapk 3 150⟩:=id rfl
theorem z3b:zO Tryz.prog 154=⟨true,true,45,536,some [.int .i64 0,.slice none 0 0,.int .i64 0,.int .i64 0,.slice none 0 0,.slice none 0 0,.slice none 0 0,.int .i64 0,.int .i64 0,.int .i64 0,.int .i64 0,.int .i64 0,.int .i64 0,.int .i64 0,.int .i64 0,.int .i64 0,.int .i64 0,.int .i64 0,.slice none 0 0,.int .i64 0,.int .i64 0,.int .i64 0,.slice none 0 0,.slice none 0 0,.slice none 0 0,.int .i64 0,.slice none 0 0,.slice none 0 0,.slice none 0 0,.int .i64 0,.int .i64 0,.int .i64 0,.int .i64 0,.int .i64 0,.int .i64 0,.int .i64 0,.int .i64 0,.int .i64 0,.int .i64 0,.int .i64 0,.int .i64 0,.int .i64 0,.int .i64 0,.int .i64 0,.int .i64 0],false,.struct [(0,63),(25,71),(29,79)]⟩:=id rfl
theorem z4b:zO Tryz.prog 158=⟨true,false,1,8,some [.pointer none],true,.ptr 161⟩:=id rfl
theorem z5b:zO Tryz.prog 161=⟨true,true,27,376,some [.int .i64 0,.slice none 0 0,.int .i64 0,.int .i64 0,.slice none 0 0,.slice none 0 0,.slice none 0 0,.int .i64 0,.int .i64 0,.int .i64 0,.int .i64 0,.int .i64 0,.int .i64 0,.int .i64 0,.int .i64 0,.int .i64 0,.int .i64 0,.int .i64 0,.slice none 0 0,.int .i64 0,.int .i64 0,.int .i64 0,.slice none 0 0,.slice none 0 0,.slice none 0 0,.slice none 0 0,.slice none 0 0],false,.struct [(0,83),(26,92)]⟩:=id rfl
theorem z6b:zO Tryz.prog 162=⟨true,false,1,8,some [.nilFunc],true,.other⟩:=id rfl
theorem z7b:zO Tryz.prog 165=⟨true,false,1,8,some [.nilFunc],true,.other⟩:=id rfl
theorem z8b:zO Tryz.prog 166=⟨true,false,1,8,some [.map none],true,.mapk 90 3⟩:=id rfl
theorem z9b:zO Tryz.prog 171=⟨true,true,12,96,some [.int .i64 0,.int .i64 0,.int .i64 0,.int .i64 0,.int .i64 0,.int .i64 0,.int .i64 0,.int .i64 0,.int .i64 0,.int .i64 0,.int .i64 0,.int .i64 0],false,.struct [(0,3),(1,75)]⟩:=id rfl
theorem qab:zO Tryz.prog 173=⟨true,false,1,8,some [.nilFunc],true,.other⟩:=id rfl
theorem qbb:zO Tryz.prog 176=⟨true,false,1,8,some [.nilFunc],true,.other⟩:=id rfl
theorem Q3a:zO Tryz.prog 183=⟨true,true,4,32,some [.int .i64 0,.int .i64 0,.int .i64 0,.int .i64 0],false,.struct [(0,24),(2,24)]⟩:=id rfl
theorem Q4a:zO Tryz.prog 185=⟨true,true,2,16,some [.int .i64 0,.int .i64 0],false,.struct [(0,3),(1,3)]⟩:=id rfl
theorem WPa:zO Tryz.prog 186=⟨true,false,1,24,some [.slice none 0 0],true,.slice 109⟩:=id rfl
theorem qcb:zO Tryz.prog 187=⟨true,false,1,8,some [.pointer none],true,.ptr 116⟩:=id rfl
theorem qdb:zO Tryz.prog 191=⟨true,false,1,8,some [.nilFunc],true,.other⟩:=id rfl
theorem qeb:zO Tryz.prog 194=⟨true,true,3,24,some [.int .i64 0,.int .i64 0,.int .i64 0],false,.struct [(0,3),(1,3),(2,3)]⟩:=id rfl
theorem qfb:zO Tryz.prog 201=⟨true,true,3,72,some [.slice none 0 0,.slice none 0 0,.slice none 0 0],false,.arr 3 55⟩:=id rfl
theorem qgb:zO Tryz.prog 206=⟨true,false,1,8,some [.nilFunc],true,.other⟩:=id rfl
theorem WQa:zO Tryz.prog 210=⟨true,true,3,24,some [.int .i64 0,.int .i64 0,.int .i64 0],false,.struct [(0,24),(2,37)]⟩:=id rfl
theorem qhb:zO Tryz.prog 217=⟨true,false,1,8,some [.nilFunc],true,.other⟩:=id rfl
theorem qib:zO Tryz.prog 218=⟨true,false,1,8,some [.nilFunc],true,.other⟩:=id rfl
theorem Q5a:zO Tryz.prog 225=⟨true,true,3,24,some [.int .i64 0,.int .i64 0,.int .i64 0],false,.struct [(0,3),(1,3),(2,3)]⟩:=id rfl
theorem qjb:zO Tryz.prog 227=⟨true,false,1,8,some [.nilFunc],true,.other⟩:=id rfl
theorem qkb:zO Tryz.prog 230=⟨true,false,1,8,some [.nilFunc],true,.other⟩:=id rfl
theorem qlb:zO Tryz.prog 232=⟨true,false,1,8,some [.nilFunc],true,.other⟩:=id rfl
theorem WRa:zO Tryz.prog 236=⟨true,true,12,112,some [.int .i64 0,.int .i64 0,.int .i64 0,.int .i64 0,.int .i64 0,.int .i64 0,.int .i64 0,.int .i64 0,.int .i64 0,.int .i64 0,.int .i64 0,.slice none 0 0],false,.struct [(0,75),(11,31)]⟩:=id rfl
theorem WSa:zO Tryz.prog 238=⟨true,false,1,8,some [.nilFunc],true,.other⟩:=id rfl
theorem qmb:zO Tryz.prog 241=⟨true,false,1,8,some [.int .u64 0],true,.int .u64⟩:=id rfl
theorem qnb:zO Tryz.prog 250=⟨true,false,1,8,some [.nilFunc],true,.other⟩:=id rfl
theorem Q6a:zO Tryz.prog 258=⟨true,false,1,8,some [.int .u64 0],true,.int .u64⟩:=id rfl
theorem WTa:zO Tryz.prog 265=⟨true,false,1,8,some [.pointer none],true,.ptr 75⟩:=id rfl
theorem qob:zO Tryz.prog 284=⟨true,false,1,8,some [.nilFunc],true,.other⟩:=id rfl
theorem qpb:zO Tryz.prog 301=⟨true,false,1,8,some [.int .i64 0],true,.int .i64⟩:=id rfl
theorem qqb:zO Tryz.prog 308=⟨true,false,1,4,some [.int .u32 0],true,.int .u32⟩:=id rfl
theorem WUa:zO Tryz.prog 311=⟨true,false,1,8,some [.map none],true,.mapk 3 186⟩:=id rfl
theorem qrb:zO Tryz.prog 315=⟨true,false,1,24,some [.slice none 0 0],true,.slice 55⟩:=id rfl
theorem WVa:zO Tryz.prog 322=⟨true,false,1,24,some [.slice none 0 0],true,.slice 27⟩:=id rfl
theorem qsb:zO Tryz.prog 335=⟨true,false,1,8,some [.int .u64 0],true,.int .u64⟩:=id rfl
theorem Yja:xu Tryz.prog 24=true:=by unfold xu;rw[Tryz.eqGuardType24,Tryz.stoodInHeld24];rfl
theorem qtb:xu Tryz.prog 75=true:=by unfold xu;rw[Tryz.eqGuardType75,Tryz.stoodInHeld75];rfl
theorem j2b:xu Tryz.prog 90=true:=by unfold xu;rw[Tryz.eqGuardType90,Tryz.stoodInHeld90];rfl
theorem WWa:xu Tryz.prog 105=true:=by unfold xu;rw[Tryz.eqGuardType105,Tryz.stoodInHeld105];rfl
theorem WXa:xu Tryz.prog 146=true:=by unfold xu;rw[Tryz.eqGuardType146,Tryz.stoodInHeld146];rfl
end Go.Proofs.YtigdlmpjijhpaaaGreat.Ax
namespace Go.Proofs.YtigdlmpjijhpaaaGreat.Ax
open Go Go.RowKit
section
variable {P:Program} {N:Nat} {B:Bs} {T:Env} {h:List Ob} {Q Q':jF}
theorem qHa{b:Bool}{p q a c:Prop}(f:p->a)(d:q->c)(k: @WH b ⟨p⟩ ⟨q⟩): @WH b ⟨a⟩ ⟨c⟩:=⟨λe=>f (k.1 e),λe=>d (k.2 e)⟩
theorem ZVa{o:Oper}{K K':Env->List Ob->Prop}(b:∀T h,K T h->K' T h)(k:Vr P T h o K):Vr P T h o K':=by
 unfold Vr at k⊢
 cases a:qN o.op with
 | some q=>
   rw[a] at k
   simp only[qxa] at k⊢
   split at k
   ·exact ACalls.mono k λr h'=>b _ _
   ·exact k.elim
 | none=>
   rw[a] at k
   simp only[Wd] at k⊢
   split at k
   ·exact b _ _ k
   ·exact k.elim
theorem qIa{o:Oper}{K K':Env->List Ob->Prop}(b:∀T h,K T h->K' T h)(k:WI P T h o K):WI P T h o K':=by
 unfold WI at k⊢
 cases c:qN o.op with
 | some q=>
   rw[c] at k
   simp only[Yn] at k⊢
   split at k
   ·exact ACalls.mono k λr h'=>b _ _
   ·split at k
    ·rename_i a
     simp only[if_pos a]
     exact Jv k λh'=>b _ _
    ·exact k.elim
   ·exact k.elim
 | none=>
   rw[c] at k
   simp only[Wd] at k⊢
   split at k
   ·exact b _ _ k
   ·exact k.elim
theorem xYa{ops:Array Oper}{K K':Env->List Ob->Prop}(c:∀T h,K T h->K' T h):∀(l:List Oper) {T:Env} {h:List Ob},wpR P ops K l T h->wpR P ops K' l T h
 | [],_,_,k=>c _ _ k
 | o::r,T,h,k=>by
   have a:∀T h,wpR P ops K r T h->wpR P ops K' r T h:=λT h=>xYa c r
   unfold wpR at k⊢
   cases b:o.guard with
   | none=>simp only[b] at k ⊢;exact qIa a k
   | some q=>
     obtain⟨j,d⟩:=q
     simp only[b] at k⊢
     unfold wI at k⊢
     split at k
     ·exact qHa (qIa a) (a _ _) k
     ·exact a _ _ k
     ·exact k.elim
theorem Zo{c:Code}(a:∀e T h,Q e T h->Q' e T h)(k: @yD P N B ⟨(c,Q)⟩ T h): @yD P N B ⟨(c,Q')⟩ T h:=AWp.mono k a
theorem JUa:∀(c:Code) {Q Q':jF} {T:Env} {h:List Ob},(∀e T h,Q e T h->Q' e T h)->wpC P N B c Q T h->wpC P N B c Q' T h:=by
 intro c
 induction c with
 | skip=>intro Q Q' T h g k;exact g _ _ _ k
 | label l=>intro Q Q' T h g k;exact g _ _ _ k
 | seq a b i m=>
   intro Q Q' T h g k
   refine i (λe T h q=>?_) k
   cases e<;>first
    | exact m g q
    | exact g _ _ _ q
 | region id ops d=>
   intro Q Q' T h g k
   cases d with
   | false=>exact xYa (g _) _ k
   | true=>exact Zo g k
 | cond x a b i m=>
   intro Q Q' T h g k
   unfold wpC Ym at k⊢
   split at k
   ·exact qHa (i g) (m g) k
   ·exact k.elim
 | block id c o=>
   intro Q Q' T h g k
   refine o (λe T h q=>?_) k
   cases e<;>try exact g _ _ _ q
   rename_i j
   by_cases n:j=id
   ·rw[Yp,if_pos n] at q ⊢;exact g _ _ _ q
   ·rw[Yp,if_neg n] at q ⊢;exact g _ _ _ q
 | loop c o=>intro Q Q' T h g k;exact Zo g k
 | exit id=>intro Q Q' T h g k;exact g _ _ _ k
 | ret=>intro Q Q' T h g k;exact g _ _ _ k
 | rangeFunc f p a b _ _=>intro Q Q' T h g k;exact Zo g k
 | scope b _=>intro Q Q' T h g k;exact Zo g k
 | goto l=>intro Q Q' T h g k;exact Zo g k
 | refuse w=>intro Q Q' T h g k;exact Zo g k
theorem QK{a b:Code}(S:Env->List Ob->Prop)(d:wpC P N B a (yC S Q) T h)(c:∀T h,S T h->wpC P N B b Q T h):wpC P N B (.seq a b) Q T h:=by
 refine JUa a (λe T h q=>?_) d
 cases e<;>first
  | exact c _ _ q
  | exact q
theorem xZa{K K':Env->List Ob->Prop}:yC K (yC K' Q)=yC K Q:=by
 funext e T h
 cases e<;>rfl
theorem xG{a b c:Code}:wpC P N B (.seq a (.seq b c)) Q T h=wpC P N B (.seq (.seq a b) c) Q T h:=by
 rw[Kx,Kx,Kx,xZa]
 rfl
theorem YG{c:Code}(S:Env->List Ob->Prop)(a:(∀T h,S T h->AWp P N B c Q T h)->AWp P N B c Q T h)(k:∀T h,S T h-> @yD P N B ⟨(c,Q)⟩ T h): @yD P N B ⟨(c,Q)⟩ T h:=a k
end
