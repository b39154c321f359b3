/-
  Joined.
-/
import Derived.Test.YtfmldcilgbbimaaGreatK04
import Derived.Test.YtfmldcilgbbimaaGreatProg
import Derived.Test.YtfmldcilgbbimaaGreatK10
set_option linter.unusedSimpArgs false
set_option linter.unusedVariables false
namespace Go.Proofs.YtfmldcilgbbimaaGreat.Ax
open Go Go.Proofs
set_option maxRecDepth 100000
theorem ty3:zi Tryz.prog 3=⟨true,false,1,8,some [.int .i64 0],true,.int .i64⟩:=id rfl
theorem ty4:zi Tryz.prog 4=⟨true,false,1,1,some [.bool false],true,.bool⟩:=id rfl
theorem ty5:zi Tryz.prog 5=⟨true,false,1,1,some [.int .u8 0],true,.int .u8⟩:=id rfl
theorem ty9:zi Tryz.prog 9=⟨true,false,1,16,some [.string ⟨#[]⟩],true,.str⟩:=id rfl
theorem Q8a:zi Tryz.prog 20=⟨true,false,1,16,some [.nilIface],true,.other⟩:=id rfl
theorem vIa:zi Tryz.prog 22=⟨true,false,1,24,some [.slice none 0 0],true,.slice 205⟩:=id rfl
theorem vJa:zi Tryz.prog 24=⟨true,true,2,16,some [.int .i64 0,.int .i64 0],false,.struct [(0,3),(1,3)]⟩:=id rfl
theorem vKa:zi Tryz.prog 25=⟨true,false,1,24,some [.slice none 0 0],true,.slice 166⟩:=id rfl
theorem xwa:zi Tryz.prog 26=⟨true,false,1,24,some [.slice none 0 0],true,.slice 24⟩:=id rfl
theorem q4a:zi Tryz.prog 27=⟨true,false,1,24,some [.slice none 0 0],true,.slice 3⟩:=id rfl
theorem vLa:zi Tryz.prog 28=⟨true,false,1,24,some [.slice none 0 0],true,.slice 168⟩:=id rfl
theorem ZFa:zi Tryz.prog 30=⟨true,true,23,280,some [.int .i64 0,.slice none 0 0,.int .i64 0,.int .i64 0,.slice none 0 0,.slice none 0 0,.slice none 0 0,.int .i64 0,.int .i64 0,.int .i64 0,.int .i64 0,.int .i64 0,.int .i64 0,.int .i64 0,.int .i64 0,.int .i64 0,.int .i64 0,.int .i64 0,.slice none 0 0,.int .i64 0,.int .i64 0,.int .i64 0,.slice none 0 0],false,.struct [(0,3),(1,22),(2,24),(4,25),(5,26),(6,26),(7,3),(8,3),(9,3),(10,3),(11,3),(12,3),(13,3),(14,3),(15,3),(16,3),(17,3),(18,27),(19,3),(20,3),(21,3),(22,28)]⟩:=id rfl
theorem vMa:zi Tryz.prog 31=⟨true,false,1,24,some [.slice none 0 0],true,.slice 73⟩:=id rfl
theorem Q9a:zi Tryz.prog 32=⟨true,false,1,24,some [.slice none 0 0],true,.slice 45⟩:=id rfl
theorem Jaa:zi Tryz.prog 33=⟨true,false,1,24,some [.slice none 0 0],true,.slice 5⟩:=id rfl
theorem yDa:zi Tryz.prog 37=⟨true,false,1,8,some [.int .i64 0],true,.int .i64⟩:=id rfl
theorem Jba:zi Tryz.prog 42=⟨true,true,7,56,some [.int .i64 0,.int .i64 0,.int .i64 0,.int .i64 0,.int .i64 0,.int .i64 0,.int .i64 0],false,.arr 7 3⟩:=id rfl
theorem ZGa:zi Tryz.prog 43=⟨true,false,1,24,some [.slice none 0 0],true,.slice 97⟩:=id rfl
theorem Jca:zi Tryz.prog 45=⟨true,true,27,232,some [.int .i64 0,.int .i64 0,.int .i64 0,.int .i64 0,.int .i64 0,.int .i64 0,.int .i64 0,.int .i64 0,.int .i64 0,.int .i64 0,.int .i64 0,.int .i64 0,.int .i64 0,.int .i64 0,.int .i64 0,.int .i64 0,.int .i64 0,.int .i64 0,.int .i64 0,.int .i64 0,.int .i64 0,.int .i64 0,.int .i64 0,.int .i64 0,.int .i64 0,.int .i64 0,.slice none 0 0],false,.struct [(0,3),(1,3),(2,37),(3,42),(10,42),(17,24),(19,24),(21,3),(22,3),(23,3),(24,3),(25,3),(26,43)]⟩:=id rfl
theorem ZHa:zi Tryz.prog 51=⟨true,false,1,24,some [.slice none 0 0],true,.slice 137⟩:=id rfl
theorem ZIa:zi Tryz.prog 55=⟨true,false,1,24,some [.slice none 0 0],true,.slice 134⟩:=id rfl
theorem Jda:zi Tryz.prog 59=⟨true,false,1,2,some [.int .u16 0],true,.int .u16⟩:=id rfl
theorem Jea:zi Tryz.prog 62=⟨true,false,1,24,some [.slice none 0 0],true,.slice 77⟩:=id rfl
theorem Jfa:zi Tryz.prog 64=⟨true,true,25,328,some [.int .i64 0,.slice none 0 0,.int .i64 0,.int .i64 0,.slice none 0 0,.slice none 0 0,.slice none 0 0,.int .i64 0,.int .i64 0,.int .i64 0,.int .i64 0,.int .i64 0,.int .i64 0,.int .i64 0,.int .i64 0,.int .i64 0,.int .i64 0,.int .i64 0,.slice none 0 0,.int .i64 0,.int .i64 0,.int .i64 0,.slice none 0 0,.slice none 0 0,.slice none 0 0],false,.struct [(0,30),(23,31),(24,27)]⟩:=id rfl
theorem Jga:zi Tryz.prog 69=⟨true,true,4,80,some [.int .i64 0,.slice none 0 0,.slice none 0 0,.slice none 0 0],false,.struct [(0,37),(1,32),(2,51),(3,33)]⟩:=id rfl
theorem vNa:zi Tryz.prog 73=⟨true,true,11,88,some [.int .i64 0,.int .i64 0,.int .i64 0,.int .i64 0,.int .i64 0,.int .i64 0,.int .i64 0,.int .i64 0,.int .i64 0,.int .i64 0,.int .i64 0],false,.struct [(0,3),(1,3),(2,3),(3,3),(4,3),(5,3),(6,3),(7,3),(8,3),(9,3),(10,3)]⟩:=id rfl
theorem Jha:zi Tryz.prog 75=⟨true,true,12,96,some [.int .i64 0,.int .i64 0,.int .i64 0,.int .i64 0,.int .i64 0,.int .i64 0,.int .i64 0,.int .i64 0,.int .i64 0,.int .i64 0,.int .i64 0,.int .i64 0],false,.struct [(0,3),(1,73)]⟩:=id rfl
theorem Jia:zi Tryz.prog 77=⟨true,true,16,128,some [.int .i64 0,.int .i64 0,.int .i64 0,.int .i64 0,.int .i64 0,.int .i64 0,.int .i64 0,.int .i64 0,.int .i64 0,.int .i64 0,.int .i64 0,.int .i64 0,.int .i64 0,.int .i64 0,.int .i64 0,.int .i64 0],false,.struct [(0,3),(1,75),(13,3),(14,3),(15,3)]⟩:=id rfl
theorem Jja:zi Tryz.prog 81=⟨true,false,1,24,some [.slice none 0 0],true,.slice 69⟩:=id rfl
theorem Jka:zi Tryz.prog 86=⟨true,false,1,24,some [.slice none 0 0],true,.slice 89⟩:=id rfl
theorem Jla:zi Tryz.prog 89=⟨true,true,2,16,some [.int .i64 0,.int .i64 0],false,.struct [(0,3),(1,3)]⟩:=id rfl
theorem ZJa:zi Tryz.prog 97=⟨true,true,2,16,some [.int .i64 0,.int .i64 0],false,.struct [(0,3),(1,3)]⟩:=id rfl
theorem Jma:zi Tryz.prog 99=⟨true,true,2,32,some [.slice none 0 0,.bool false],false,.struct [(0,33),(1,4)]⟩:=id rfl
theorem ZKa:zi Tryz.prog 100=⟨true,false,1,8,some [.nilFunc],true,.other⟩:=id rfl
theorem w5a:zi Tryz.prog 101=⟨true,false,1,8,some [.pointer none],true,.ptr 3⟩:=id rfl
theorem ZLa:zi Tryz.prog 103=⟨true,false,1,8,some [.pointer none],true,.ptr 99⟩:=id rfl
theorem ZMa:zi Tryz.prog 105=⟨true,true,0,0,some [],false,.struct []⟩:=id rfl
theorem ZNa:zi Tryz.prog 108=⟨true,true,2,32,some [.slice none 0 0,.bool false],false,.struct [(0,99)]⟩:=id rfl
theorem ZOa:zi Tryz.prog 111=⟨true,false,1,8,some [.pointer none],true,.ptr 45⟩:=id rfl
theorem ZPa:zi Tryz.prog 115=⟨true,false,1,8,some [.nilFunc],true,.other⟩:=id rfl
theorem ZQa:zi Tryz.prog 117=⟨true,false,1,24,some [.slice none 0 0],true,.slice 175⟩:=id rfl
theorem w6a:zi Tryz.prog 126=⟨true,false,1,8,some [.pointer none],true,.ptr 129⟩:=id rfl
theorem w7a:zi Tryz.prog 127=⟨true,false,1,8,some [.pointer none],true,.ptr 216⟩:=id rfl
theorem w8a:zi Tryz.prog 129=⟨true,true,26,336,some [.int .i64 0,.slice none 0 0,.int .i64 0,.int .i64 0,.slice none 0 0,.slice none 0 0,.slice none 0 0,.int .i64 0,.int .i64 0,.int .i64 0,.int .i64 0,.int .i64 0,.int .i64 0,.int .i64 0,.int .i64 0,.int .i64 0,.int .i64 0,.int .i64 0,.slice none 0 0,.int .i64 0,.int .i64 0,.int .i64 0,.slice none 0 0,.pointer none,.slice none 0 0,.slice none 0 0],false,.struct [(0,30),(23,127),(24,51),(25,43)]⟩:=id rfl
theorem w9a:zi Tryz.prog 134=⟨true,true,2,16,some [.int .i64 0,.int .i64 0],false,.struct [(0,3),(1,3)]⟩:=id rfl
theorem yaa:zi Tryz.prog 137=⟨true,true,5,40,some [.int .i64 0,.int .i64 0,.int .i64 0,.int .i64 0,.int .i64 0],false,.struct [(0,3),(1,3),(2,3),(3,3),(4,3)]⟩:=id rfl
theorem yba:zi Tryz.prog 138=⟨true,false,1,8,some [.nilFunc],true,.other⟩:=id rfl
theorem ZRa:zi Tryz.prog 141=⟨true,false,1,8,some [.nilFunc],true,.other⟩:=id rfl
theorem ZSa:zi Tryz.prog 142=⟨true,false,1,8,some [.pointer none],true,.ptr 145⟩:=id rfl
theorem ZTa:zi Tryz.prog 143=⟨true,false,1,8,some [.map none],true,.mapk 3 141⟩:=id rfl
theorem ZUa:zi Tryz.prog 145=⟨true,true,45,536,some [.int .i64 0,.slice none 0 0,.int .i64 0,.int .i64 0,.slice none 0 0,.slice none 0 0,.slice none 0 0,.int .i64 0,.int .i64 0,.int .i64 0,.int .i64 0,.int .i64 0,.int .i64 0,.int .i64 0,.int .i64 0,.int .i64 0,.int .i64 0,.int .i64 0,.slice none 0 0,.int .i64 0,.int .i64 0,.int .i64 0,.slice none 0 0,.slice none 0 0,.slice none 0 0,.int .i64 0,.slice none 0 0,.slice none 0 0,.slice none 0 0,.int .i64 0,.int .i64 0,.int .i64 0,.int .i64 0,.int .i64 0,.int .i64 0,.int .i64 0,.int .i64 0,.int .i64 0,.int .i64 0,.int .i64 0,.int .i64 0,.int .i64 0,.int .i64 0,.int .i64 0,.int .i64 0],false,.struct [(0,64),(25,69),(29,77)]⟩:=id rfl
theorem ZVa:zi Tryz.prog 152=⟨true,true,12,96,some [.int .i64 0,.int .i64 0,.int .i64 0,.int .i64 0,.int .i64 0,.int .i64 0,.int .i64 0,.int .i64 0,.int .i64 0,.int .i64 0,.int .i64 0,.int .i64 0],false,.struct [(0,3),(1,73)]⟩:=id rfl
theorem ZWa:zi Tryz.prog 155=⟨true,false,1,8,some [.map none],true,.mapk 89 3⟩:=id rfl
theorem ZXa:zi Tryz.prog 161=⟨true,false,1,8,some [.nilFunc],true,.other⟩:=id rfl
theorem ZYa:zi Tryz.prog 164=⟨true,false,1,8,some [.nilFunc],true,.other⟩:=id rfl
theorem xxa:zi Tryz.prog 166=⟨true,true,4,32,some [.int .i64 0,.int .i64 0,.int .i64 0,.int .i64 0],false,.struct [(0,24),(2,24)]⟩:=id rfl
theorem xya:zi Tryz.prog 168=⟨true,true,2,16,some [.int .i64 0,.int .i64 0],false,.struct [(0,3),(1,3)]⟩:=id rfl
theorem yca:zi Tryz.prog 169=⟨true,false,1,24,some [.slice none 0 0],true,.slice 101⟩:=id rfl
theorem ZZa:zi Tryz.prog 170=⟨true,false,1,8,some [.pointer none],true,.ptr 108⟩:=id rfl
theorem Z0a:zi Tryz.prog 175=⟨true,true,3,24,some [.int .i64 0,.int .i64 0,.int .i64 0],false,.struct [(0,3),(1,3),(2,3)]⟩:=id rfl
theorem Z1a:zi Tryz.prog 182=⟨true,true,3,72,some [.slice none 0 0,.slice none 0 0,.slice none 0 0],false,.arr 3 55⟩:=id rfl
theorem Z2a:zi Tryz.prog 187=⟨true,false,1,8,some [.nilFunc],true,.other⟩:=id rfl
theorem yda:zi Tryz.prog 191=⟨true,true,3,24,some [.int .i64 0,.int .i64 0,.int .i64 0],false,.struct [(0,24),(2,37)]⟩:=id rfl
theorem Z3a:zi Tryz.prog 197=⟨true,false,1,8,some [.nilFunc],true,.other⟩:=id rfl
theorem Z4a:zi Tryz.prog 198=⟨true,false,1,8,some [.nilFunc],true,.other⟩:=id rfl
theorem xza:zi Tryz.prog 205=⟨true,true,3,24,some [.int .i64 0,.int .i64 0,.int .i64 0],false,.struct [(0,3),(1,3),(2,3)]⟩:=id rfl
theorem Z5a:zi Tryz.prog 207=⟨true,false,1,8,some [.nilFunc],true,.other⟩:=id rfl
theorem Z6a:zi Tryz.prog 210=⟨true,false,1,8,some [.nilFunc],true,.other⟩:=id rfl
theorem Z7a:zi Tryz.prog 212=⟨true,false,1,8,some [.nilFunc],true,.other⟩:=id rfl
theorem yea:zi Tryz.prog 216=⟨true,true,12,112,some [.int .i64 0,.int .i64 0,.int .i64 0,.int .i64 0,.int .i64 0,.int .i64 0,.int .i64 0,.int .i64 0,.int .i64 0,.int .i64 0,.int .i64 0,.slice none 0 0],false,.struct [(0,73),(11,31)]⟩:=id rfl
theorem yfa:zi Tryz.prog 218=⟨true,false,1,8,some [.nilFunc],true,.other⟩:=id rfl
theorem Z8a:zi Tryz.prog 221=⟨true,false,1,8,some [.int .u64 0],true,.int .u64⟩:=id rfl
theorem Z9a:zi Tryz.prog 228=⟨true,false,1,8,some [.nilFunc],true,.other⟩:=id rfl
theorem xAa:zi Tryz.prog 234=⟨true,false,1,8,some [.int .u64 0],true,.int .u64⟩:=id rfl
theorem yga:zi Tryz.prog 239=⟨true,false,1,8,some [.pointer none],true,.ptr 73⟩:=id rfl
theorem Qaa:zi Tryz.prog 259=⟨true,false,1,8,some [.nilFunc],true,.other⟩:=id rfl
theorem Qba:zi Tryz.prog 273=⟨true,false,1,8,some [.int .i64 0],true,.int .i64⟩:=id rfl
theorem Qca:zi Tryz.prog 281=⟨true,false,1,4,some [.int .u32 0],true,.int .u32⟩:=id rfl
theorem yha:zi Tryz.prog 282=⟨true,false,1,8,some [.map none],true,.mapk 3 169⟩:=id rfl
theorem Qda:zi Tryz.prog 288=⟨true,false,1,24,some [.slice none 0 0],true,.slice 55⟩:=id rfl
theorem yia:zi Tryz.prog 295=⟨true,false,1,24,some [.slice none 0 0],true,.slice 27⟩:=id rfl
theorem Qea:zi Tryz.prog 309=⟨true,false,1,8,some [.int .u64 0],true,.int .u64⟩:=id rfl
theorem yEa:q9 Tryz.prog 24=true:=by unfold q9;rw[Tryz.eqGuardType24,Tryz.stoodInHeld24];rfl
theorem Qfa:q9 Tryz.prog 73=true:=by unfold q9;rw[Tryz.eqGuardType73,Tryz.stoodInHeld73];rfl
theorem Qga:q9 Tryz.prog 97=true:=by unfold q9;rw[Tryz.eqGuardType97,Tryz.stoodInHeld97];rfl
theorem yja:q9 Tryz.prog 137=true:=by unfold q9;rw[Tryz.eqGuardType137,Tryz.stoodInHeld137];rfl
end Go.Proofs.YtfmldcilgbbimaaGreat.Ax
namespace Go.Proofs.YtfmldcilgbbimaaGreat.Ax
open Go Go.RowKit
section
variable {P:Program} {N:Nat} {B:Bs} {T:Env} {h:List Ob} {Q Q':jl}
theorem KV {b:Bool} {p q c a:Prop} (f:p->c) (d:q->a) (k: @JD b ⟨p⟩ ⟨q⟩): @JD b ⟨c⟩ ⟨a⟩:=⟨λe=>f (k.1 e),λe=>d (k.2 e)⟩
theorem KW {o:Oper} {K K':Env->List Ob->Prop} (a:∀T h,K T h->K' T h) (k:JE P T h o K):JE P T h o K':=by
 unfold JE at k⊢
 cases c:zG o.op with
 | some q=>
   rw[c] at k
   simp only[KI] at k⊢
   split at k
   ·exact ACalls.mono k λr h'=>a _ _
   ·split at k
    ·rename_i b
     simp only[if_pos b]
     exact yC k λh'=>a _ _
    ·exact k.elim
   ·exact k.elim
 | none=>
   rw[c] at k
   simp only[Xe] at k⊢
   split at k
   ·exact a _ _ k
   ·exact k.elim
theorem WN {ops:Array Oper} {K K':Env->List Ob->Prop} (c:∀T h,K T h->K' T h):∀(l:List Oper) {T:Env} {h:List Ob},wpR P ops K l T h->wpR P ops K' l T h
 | [],_,_,k=>c _ _ k
 | o::r,T,h,k=>by
   have a:∀T h,wpR P ops K r T h->wpR P ops K' r T h:=λT h=>WN c r
   unfold wpR at k⊢
   cases d:o.guard with
   | none=>simp only[d] at k ⊢;exact KW a k
   | some q=>
     obtain ⟨j,b⟩:=q
     simp only[d] at k⊢
     unfold xK at k⊢
     split at k
     ·exact KV (KW a) (a _ _) k
     ·exact a _ _ k
     ·exact k.elim
theorem vo {c:Code} (a:∀e T h,Q e T h->Q' e T h) (k: @we P N B ⟨(c,Q)⟩ T h): @we P N B ⟨(c,Q')⟩ T h:=AWp.mono k a
theorem kta:∀(c:Code) {Q Q':jl} {T:Env} {h:List Ob},(∀e T h,Q e T h->Q' e T h)->wpC P N B c Q T h->wpC P N B c Q' T h:=by
 intro c
 induction c with
 | skip=>intro Q Q' T h g k;exact g _ _ _ k
 | label l=>intro Q Q' T h g k;exact g _ _ _ k
 | seq a b i m=>
   intro Q Q' T h g k
   refine i (λe T h q=>?_) k
   cases e<;>first
    | exact m g q
    | exact g _ _ _ q
 | region id ops d=>
   intro Q Q' T h g k
   cases d with
   | false=>exact WN (g _) _ k
   | true=>exact vo g k
 | cond x a b i m=>
   intro Q Q' T h g k
   unfold wpC Xd at k⊢
   split at k
   ·exact KV (i g) (m g) k
   ·exact k.elim
 | block id c n=>
   intro Q Q' T h g k
   refine n (λe T h q=>?_) k
   cases e<;>try exact g _ _ _ q
   rename_i j
   by_cases o:j=id
   ·rw[Xg,if_pos o] at q ⊢;exact g _ _ _ q
   ·rw[Xg,if_neg o] at q ⊢;exact g _ _ _ q
 | loop c n=>intro Q Q' T h g k;exact vo g k
 | exit id=>intro Q Q' T h g k;exact g _ _ _ k
 | ret=>intro Q Q' T h g k;exact g _ _ _ k
 | rangeFunc f p a b _ _=>intro Q Q' T h g k;exact vo g k
 | scope b _=>intro Q Q' T h g k;exact vo g k
 | goto l=>intro Q Q' T h g k;exact vo g k
 | refuse w=>intro Q Q' T h g k;exact vo g k
theorem wT {a b:Code} (S:Env->List Ob->Prop) (d:wpC P N B a (kH S Q) T h) (c:∀T h,S T h->wpC P N B b Q T h):wpC P N B (.seq a b) Q T h:=by
 refine kta a (λe T h q=>?_) d
 cases e<;>first
  | exact c _ _ q
  | exact q
theorem WO {K K':Env->List Ob->Prop}:kH K (kH K' Q)=kH K Q:=by
 funext e T h
 cases e<;>rfl
theorem qQ {a b c:Code}:wpC P N B (.seq a (.seq b c)) Q T h=wpC P N B (.seq (.seq a b) c) Q T h:=by
 rw[Qc,Qc,Qc,WO]
 rfl
theorem zpa {c:Code} (S:Env->List Ob->Prop) (a:(∀T h,S T h->AWp P N B c Q T h)->AWp P N B c Q T h) (k:∀T h,S T h-> @we P N B ⟨(c,Q)⟩ T h): @we P N B ⟨(c,Q)⟩ T h:=a k
end
end Go.Proofs.YtfmldcilgbbimaaGreat.Ax
