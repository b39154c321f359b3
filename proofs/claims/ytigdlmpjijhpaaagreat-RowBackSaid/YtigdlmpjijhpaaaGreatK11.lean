import Derived.Test.YtigdlmpjijhpaaaGreatKA
import Derived.Test.YtigdlmpjijhpaaaGreatK10
import Derived.Test.YtigdlmpjijhpaaaGreatK04
import Derived.Test.YtigdlmpjijhpaaaGreatProg
set_option linter.all false
namespace Go.Proofs.YtigdlmpjijhpaaaGreat.Ax
open Go Go.RowKit
section
variable {P:Program} {N:Nat} {B:Bs} {T:Env} {h:List Ob} {Q Q':jA}
theorem YI{b:Bool}{p q a c:Prop}(f:p->a)(d:q->c)(k: @K2 b ⟨p⟩ ⟨q⟩): @K2 b ⟨a⟩ ⟨c⟩:=⟨λe=>f (k.1 e),λe=>d (k.2 e)⟩
theorem wea{o:Oper}{K K':Env->List Ob->Prop}(a:∀T h,K T h->K' T h)(k:K3 P T h o K):K3 P T h o K':=by
 unfold K3 at k⊢
 cases b:qx o.op with
 | some q=>
   rw[b] at k
   simp only[Yy] at k⊢
   split at k
   ·exact ACalls.mono k λr h'=>a _ _
   ·exact k.elim
 | none=>
   rw[b] at k
   simp only[KA] at k⊢
   split at k
   ·exact a _ _ k
   ·exact k.elim
theorem YJ{o:Oper}{K K':Env->List Ob->Prop}(a:∀T h,K T h->K' T h)(k:K4 P T h o K):K4 P T h o K':=by
 unfold K4 at k⊢
 cases c:qx o.op with
 | some q=>
   rw[c] at k
   simp only[Yz] at k⊢
   split at k
   ·exact ACalls.mono k λr h'=>a _ _
   ·split at k
    ·rename_i b
     simp only[if_pos b]
     exact Qv k λh'=>a _ _
    ·exact k.elim
   ·exact k.elim
 | none=>
   rw[c] at k
   simp only[KA] at k⊢
   split at k
   ·exact a _ _ k
   ·exact k.elim
theorem qRa{ops:Array Oper}{K K':Env->List Ob->Prop}(b:∀T h,K T h->K' T h):∀(l:List Oper) {T:Env} {h:List Ob},wpR P ops K l T h->wpR P ops K' l T h
 | [],_,_,k=>b _ _ k
 | o::r,T,h,k=>by
   have a:∀T h,wpR P ops K r T h->wpR P ops K' r T h:=λT h=>qRa b r
   unfold wpR at k⊢
   cases c:o.guard with
   | none=>simp only[c] at k ⊢;exact YJ a k
   | some q=>
     obtain⟨j,d⟩:=q
     simp only[c] at k⊢
     unfold vV at k⊢
     split at k
     ·exact YI (YJ a) (a _ _) k
     ·exact a _ _ k
     ·exact k.elim
theorem yw{c:Code}(a:∀e T h,Q e T h->Q' e T h)(k: @wM P N B ⟨(c,Q)⟩ T h): @wM P N B ⟨(c,Q')⟩ T h:=AWp.mono k a
theorem yZa:∀(c:Code) {Q Q':jA} {T:Env} {h:List Ob},(∀e T h,Q e T h->Q' e T h)->wpC P N B c Q T h->wpC P N B c Q' T h:=by
 intro c
 induction c with
 | skip=>intro Q Q' T h g k;exact g _ _ _ k
 | label l=>intro Q Q' T h g k;exact g _ _ _ k
 | seq a b i m=>
   intro Q Q' T h g k
   refine i (λe T h q=>?_) k
   cases e<;>first
    | exact m g q
    | exact g _ _ _ q
 | region id ops d=>
   intro Q Q' T h g k
   cases d with
   | false=>exact qRa (g _) _ k
   | true=>exact yw g k
 | cond x a b i m=>
   intro Q Q' T h g k
   unfold wpC VC at k⊢
   split at k
   ·exact YI (i g) (m g) k
   ·exact k.elim
 | block id c n=>
   intro Q Q' T h g k
   refine n (λe T h q=>?_) k
   cases e<;>try exact g _ _ _ q
   rename_i j
   by_cases o:j=id
   ·rw[VE,if_pos o] at q ⊢;exact g _ _ _ q
   ·rw[VE,if_neg o] at q ⊢;exact g _ _ _ q
 | loop c n=>intro Q Q' T h g k;exact yw g k
 | exit id=>intro Q Q' T h g k;exact g _ _ _ k
 | ret=>intro Q Q' T h g k;exact g _ _ _ k
 | rangeFunc f p a b _ _=>intro Q Q' T h g k;exact yw g k
 | scope b _=>intro Q Q' T h g k;exact yw g k
 | goto l=>intro Q Q' T h g k;exact yw g k
 | refuse w=>intro Q Q' T h g k;exact yw g k
theorem ZQ{a b:Code}(S:Env->List Ob->Prop)(d:wpC P N B a (wL S Q) T h)(c:∀T h,S T h->wpC P N B b Q T h):wpC P N B (.seq a b) Q T h:=by
 refine yZa a (λe T h q=>?_) d
 cases e<;>first
  | exact c _ _ q
  | exact q
theorem qSa{K K':Env->List Ob->Prop}:wL K (wL K' Q)=wL K Q:=by
 funext e T h
 cases e<;>rfl
theorem xk{a b c:Code}:wpC P N B (.seq a (.seq b c)) Q T h=wpC P N B (.seq (.seq a b) c) Q T h:=by
 rw[Xl,Xl,Xl,qSa]
 rfl
theorem VQ{c:Code}(S:Env->List Ob->Prop)(a:(∀T h,S T h->AWp P N B c Q T h)->AWp P N B c Q T h)(k:∀T h,S T h-> @wM P N B ⟨(c,Q)⟩ T h): @wM P N B ⟨(c,Q)⟩ T h:=a k
end
end Go.Proofs.YtigdlmpjijhpaaaGreat.Ax
namespace Go.Proofs.YtigdlmpjijhpaaaGreat.Ax
open Go Go.Proofs
set_option maxRecDepth 100000
theorem ty3:zE Tryz.prog 3=⟨true,false,1,8,some [.int .i64 0],true,.int .i64⟩:=id rfl
theorem ty4:zE Tryz.prog 4=⟨true,false,1,1,some [.bool false],true,.bool⟩:=id rfl
theorem ty5:zE Tryz.prog 5=⟨true,false,1,1,some [.int .u8 0],true,.int .u8⟩:=id rfl
theorem ty9:zE Tryz.prog 9=⟨true,false,1,16,some [.string ⟨#[]⟩],true,.str⟩:=id rfl
theorem W0a:zE Tryz.prog 20=⟨true,false,1,16,some [.nilIface],true,.other⟩:=id rfl
theorem Q0a:zE Tryz.prog 22=⟨true,false,1,24,some [.slice none 0 0],true,.slice 225⟩:=id rfl
theorem Q1a:zE Tryz.prog 24=⟨true,true,2,16,some [.int .i64 0,.int .i64 0],false,.struct [(0,3),(1,3)]⟩:=id rfl
theorem Q2a:zE Tryz.prog 25=⟨true,false,1,24,some [.slice none 0 0],true,.slice 183⟩:=id rfl
theorem y5a:zE Tryz.prog 26=⟨true,false,1,24,some [.slice none 0 0],true,.slice 24⟩:=id rfl
theorem wja:zE Tryz.prog 27=⟨true,false,1,24,some [.slice none 0 0],true,.slice 3⟩:=id rfl
theorem Q3a:zE Tryz.prog 28=⟨true,false,1,24,some [.slice none 0 0],true,.slice 185⟩:=id rfl
theorem Vda:zE Tryz.prog 30=⟨true,true,23,280,some [.int .i64 0,.slice none 0 0,.int .i64 0,.int .i64 0,.slice none 0 0,.slice none 0 0,.slice none 0 0,.int .i64 0,.int .i64 0,.int .i64 0,.int .i64 0,.int .i64 0,.int .i64 0,.int .i64 0,.int .i64 0,.int .i64 0,.int .i64 0,.int .i64 0,.slice none 0 0,.int .i64 0,.int .i64 0,.int .i64 0,.slice none 0 0],false,.struct [(0,3),(1,22),(2,24),(4,25),(5,26),(6,26),(7,3),(8,3),(9,3),(10,3),(11,3),(12,3),(13,3),(14,3),(15,3),(16,3),(17,3),(18,27),(19,3),(20,3),(21,3),(22,28)]⟩:=id rfl
theorem Q4a:zE Tryz.prog 31=⟨true,false,1,24,some [.slice none 0 0],true,.slice 75⟩:=id rfl
theorem W1a:zE Tryz.prog 32=⟨true,false,1,24,some [.slice none 0 0],true,.slice 45⟩:=id rfl
theorem W2a:zE Tryz.prog 33=⟨true,false,1,24,some [.slice none 0 0],true,.slice 5⟩:=id rfl
theorem Kia:zE Tryz.prog 37=⟨true,false,1,8,some [.int .i64 0],true,.int .i64⟩:=id rfl
theorem W3a:zE Tryz.prog 42=⟨true,true,7,56,some [.int .i64 0,.int .i64 0,.int .i64 0,.int .i64 0,.int .i64 0,.int .i64 0,.int .i64 0],false,.arr 7 3⟩:=id rfl
theorem Vea:zE Tryz.prog 43=⟨true,false,1,24,some [.slice none 0 0],true,.slice 105⟩:=id rfl
theorem W4a:zE Tryz.prog 45=⟨true,true,27,232,some [.int .i64 0,.int .i64 0,.int .i64 0,.int .i64 0,.int .i64 0,.int .i64 0,.int .i64 0,.int .i64 0,.int .i64 0,.int .i64 0,.int .i64 0,.int .i64 0,.int .i64 0,.int .i64 0,.int .i64 0,.int .i64 0,.int .i64 0,.int .i64 0,.int .i64 0,.int .i64 0,.int .i64 0,.int .i64 0,.int .i64 0,.int .i64 0,.int .i64 0,.int .i64 0,.slice none 0 0],false,.struct [(0,3),(1,3),(2,37),(3,42),(10,42),(17,24),(19,24),(21,3),(22,3),(23,3),(24,3),(25,3),(26,43)]⟩:=id rfl
theorem Vfa:zE Tryz.prog 51=⟨true,false,1,24,some [.slice none 0 0],true,.slice 146⟩:=id rfl
theorem Vga:zE Tryz.prog 55=⟨true,false,1,24,some [.slice none 0 0],true,.slice 143⟩:=id rfl
theorem W5a:zE Tryz.prog 58=⟨true,false,1,2,some [.int .u16 0],true,.int .u16⟩:=id rfl
theorem W6a:zE Tryz.prog 61=⟨true,false,1,24,some [.slice none 0 0],true,.slice 79⟩:=id rfl
theorem W7a:zE Tryz.prog 63=⟨true,true,25,328,some [.int .i64 0,.slice none 0 0,.int .i64 0,.int .i64 0,.slice none 0 0,.slice none 0 0,.slice none 0 0,.int .i64 0,.int .i64 0,.int .i64 0,.int .i64 0,.int .i64 0,.int .i64 0,.int .i64 0,.int .i64 0,.int .i64 0,.int .i64 0,.int .i64 0,.slice none 0 0,.int .i64 0,.int .i64 0,.int .i64 0,.slice none 0 0,.slice none 0 0,.slice none 0 0],false,.struct [(0,30),(23,31),(24,27)]⟩:=id rfl
theorem W8a:zE Tryz.prog 67=⟨true,false,1,24,some [.slice none 0 0],true,.slice 71⟩:=id rfl
theorem W9a:zE Tryz.prog 71=⟨true,true,4,80,some [.int .i64 0,.slice none 0 0,.slice none 0 0,.slice none 0 0],false,.struct [(0,37),(1,32),(2,51),(3,33)]⟩:=id rfl
theorem Q5a:zE Tryz.prog 75=⟨true,true,11,88,some [.int .i64 0,.int .i64 0,.int .i64 0,.int .i64 0,.int .i64 0,.int .i64 0,.int .i64 0,.int .i64 0,.int .i64 0,.int .i64 0,.int .i64 0],false,.struct [(0,3),(1,3),(2,3),(3,3),(4,3),(5,3),(6,3),(7,3),(8,3),(9,3),(10,3)]⟩:=id rfl
theorem Yaa:zE Tryz.prog 77=⟨true,true,12,96,some [.int .i64 0,.int .i64 0,.int .i64 0,.int .i64 0,.int .i64 0,.int .i64 0,.int .i64 0,.int .i64 0,.int .i64 0,.int .i64 0,.int .i64 0,.int .i64 0],false,.struct [(0,3),(1,75)]⟩:=id rfl
theorem Yba:zE Tryz.prog 79=⟨true,true,16,128,some [.int .i64 0,.int .i64 0,.int .i64 0,.int .i64 0,.int .i64 0,.int .i64 0,.int .i64 0,.int .i64 0,.int .i64 0,.int .i64 0,.int .i64 0,.int .i64 0,.int .i64 0,.int .i64 0,.int .i64 0,.int .i64 0],false,.struct [(0,3),(1,77),(13,3),(14,3),(15,3)]⟩:=id rfl
theorem Yca:zE Tryz.prog 83=⟨true,true,26,352,some [.int .i64 0,.slice none 0 0,.int .i64 0,.int .i64 0,.slice none 0 0,.slice none 0 0,.slice none 0 0,.int .i64 0,.int .i64 0,.int .i64 0,.int .i64 0,.int .i64 0,.int .i64 0,.int .i64 0,.int .i64 0,.int .i64 0,.int .i64 0,.int .i64 0,.slice none 0 0,.int .i64 0,.int .i64 0,.int .i64 0,.slice none 0 0,.slice none 0 0,.slice none 0 0,.slice none 0 0],false,.struct [(0,63),(25,32)]⟩:=id rfl
theorem Yda:zE Tryz.prog 86=⟨true,false,1,24,some [.slice none 0 0],true,.slice 92⟩:=id rfl
theorem Yea:zE Tryz.prog 90=⟨true,true,2,16,some [.int .i64 0,.int .i64 0],false,.struct [(0,3),(1,3)]⟩:=id rfl
theorem Yfa:zE Tryz.prog 92=⟨true,false,1,24,some [.slice none 0 0],true,.slice 90⟩:=id rfl
theorem Xsa:zE Tryz.prog 105=⟨true,true,2,16,some [.int .i64 0,.int .i64 0],false,.struct [(0,3),(1,3)]⟩:=id rfl
theorem Vha:zE Tryz.prog 107=⟨true,true,2,32,some [.slice none 0 0,.bool false],false,.struct [(0,33),(1,4)]⟩:=id rfl
theorem Via:zE Tryz.prog 108=⟨true,false,1,8,some [.nilFunc],true,.other⟩:=id rfl
theorem Xta:zE Tryz.prog 109=⟨true,false,1,8,some [.pointer none],true,.ptr 3⟩:=id rfl
theorem Vja:zE Tryz.prog 111=⟨true,false,1,8,some [.pointer none],true,.ptr 107⟩:=id rfl
theorem Vka:zE Tryz.prog 113=⟨true,true,0,0,some [],false,.struct []⟩:=id rfl
theorem Vla:zE Tryz.prog 116=⟨true,true,2,32,some [.slice none 0 0,.bool false],false,.struct [(0,107)]⟩:=id rfl
theorem Vma:zE Tryz.prog 119=⟨true,false,1,8,some [.pointer none],true,.ptr 45⟩:=id rfl
theorem Vna:zE Tryz.prog 124=⟨true,false,1,8,some [.nilFunc],true,.other⟩:=id rfl
theorem Voa:zE Tryz.prog 126=⟨true,false,1,24,some [.slice none 0 0],true,.slice 194⟩:=id rfl
theorem Xua:zE Tryz.prog 135=⟨true,false,1,8,some [.pointer none],true,.ptr 138⟩:=id rfl
theorem Xva:zE Tryz.prog 136=⟨true,false,1,8,some [.pointer none],true,.ptr 236⟩:=id rfl
theorem Xwa:zE Tryz.prog 138=⟨true,true,26,336,some [.int .i64 0,.slice none 0 0,.int .i64 0,.int .i64 0,.slice none 0 0,.slice none 0 0,.slice none 0 0,.int .i64 0,.int .i64 0,.int .i64 0,.int .i64 0,.int .i64 0,.int .i64 0,.int .i64 0,.int .i64 0,.int .i64 0,.int .i64 0,.int .i64 0,.slice none 0 0,.int .i64 0,.int .i64 0,.int .i64 0,.slice none 0 0,.pointer none,.slice none 0 0,.slice none 0 0],false,.struct [(0,30),(23,136),(24,51),(25,43)]⟩:=id rfl
theorem Xxa:zE Tryz.prog 143=⟨true,true,2,16,some [.int .i64 0,.int .i64 0],false,.struct [(0,3),(1,3)]⟩:=id rfl
theorem Xya:zE Tryz.prog 146=⟨true,true,5,40,some [.int .i64 0,.int .i64 0,.int .i64 0,.int .i64 0,.int .i64 0],false,.struct [(0,3),(1,3),(2,3),(3,3),(4,3)]⟩:=id rfl
theorem Xza:zE Tryz.prog 147=⟨true,false,1,8,some [.nilFunc],true,.other⟩:=id rfl
theorem Vpa:zE Tryz.prog 150=⟨true,false,1,8,some [.nilFunc],true,.other⟩:=id rfl
theorem Vqa:zE Tryz.prog 151=⟨true,false,1,8,some [.pointer none],true,.ptr 154⟩:=id rfl
theorem Vra:zE Tryz.prog 152=⟨true,false,1,8,some [.map none],true,.mapk 3 150⟩:=id rfl
theorem Vsa:zE Tryz.prog 154=⟨true,true,45,536,some [.int .i64 0,.slice none 0 0,.int .i64 0,.int .i64 0,.slice none 0 0,.slice none 0 0,.slice none 0 0,.int .i64 0,.int .i64 0,.int .i64 0,.int .i64 0,.int .i64 0,.int .i64 0,.int .i64 0,.int .i64 0,.int .i64 0,.int .i64 0,.int .i64 0,.slice none 0 0,.int .i64 0,.int .i64 0,.int .i64 0,.slice none 0 0,.slice none 0 0,.slice none 0 0,.int .i64 0,.slice none 0 0,.slice none 0 0,.slice none 0 0,.int .i64 0,.int .i64 0,.int .i64 0,.int .i64 0,.int .i64 0,.int .i64 0,.int .i64 0,.int .i64 0,.int .i64 0,.int .i64 0,.int .i64 0,.int .i64 0,.int .i64 0,.int .i64 0,.int .i64 0,.int .i64 0],false,.struct [(0,63),(25,71),(29,79)]⟩:=id rfl
theorem Vta:zE Tryz.prog 158=⟨true,false,1,8,some [.pointer none],true,.ptr 161⟩:=id rfl
theorem Vua:zE Tryz.prog 161=⟨true,true,27,376,some [.int .i64 0,.slice none 0 0,.int .i64 0,.int .i64 0,.slice none 0 0,.slice none 0 0,.slice none 0 0,.int .i64 0,.int .i64 0,.int .i64 0,.int .i64 0,.int .i64 0,.int .i64 0,.int .i64 0,.int .i64 0,.int .i64 0,.int .i64 0,.int .i64 0,.slice none 0 0,.int .i64 0,.int .i64 0,.int .i64 0,.slice none 0 0,.slice none 0 0,.slice none 0 0,.slice none 0 0,.slice none 0 0],false,.struct [(0,83),(26,92)]⟩:=id rfl
theorem Vva:zE Tryz.prog 162=⟨true,false,1,8,some [.nilFunc],true,.other⟩:=id rfl
theorem Vwa:zE Tryz.prog 165=⟨true,false,1,8,some [.nilFunc],true,.other⟩:=id rfl
theorem Vxa:zE Tryz.prog 166=⟨true,false,1,8,some [.map none],true,.mapk 90 3⟩:=id rfl
theorem Vya:zE Tryz.prog 171=⟨true,true,12,96,some [.int .i64 0,.int .i64 0,.int .i64 0,.int .i64 0,.int .i64 0,.int .i64 0,.int .i64 0,.int .i64 0,.int .i64 0,.int .i64 0,.int .i64 0,.int .i64 0],false,.struct [(0,3),(1,75)]⟩:=id rfl
theorem Vza:zE Tryz.prog 173=⟨true,false,1,8,some [.nilFunc],true,.other⟩:=id rfl
theorem VAa:zE Tryz.prog 176=⟨true,false,1,8,some [.nilFunc],true,.other⟩:=id rfl
theorem y6a:zE Tryz.prog 183=⟨true,true,4,32,some [.int .i64 0,.int .i64 0,.int .i64 0,.int .i64 0],false,.struct [(0,24),(2,24)]⟩:=id rfl
theorem y7a:zE Tryz.prog 185=⟨true,true,2,16,some [.int .i64 0,.int .i64 0],false,.struct [(0,3),(1,3)]⟩:=id rfl
theorem XAa:zE Tryz.prog 186=⟨true,false,1,24,some [.slice none 0 0],true,.slice 109⟩:=id rfl
theorem VBa:zE Tryz.prog 187=⟨true,false,1,8,some [.pointer none],true,.ptr 116⟩:=id rfl
theorem VCa:zE Tryz.prog 191=⟨true,false,1,8,some [.nilFunc],true,.other⟩:=id rfl
theorem VDa:zE Tryz.prog 194=⟨true,true,3,24,some [.int .i64 0,.int .i64 0,.int .i64 0],false,.struct [(0,3),(1,3),(2,3)]⟩:=id rfl
theorem VEa:zE Tryz.prog 201=⟨true,true,3,72,some [.slice none 0 0,.slice none 0 0,.slice none 0 0],false,.arr 3 55⟩:=id rfl
theorem VFa:zE Tryz.prog 206=⟨true,false,1,8,some [.nilFunc],true,.other⟩:=id rfl
theorem XBa:zE Tryz.prog 210=⟨true,true,3,24,some [.int .i64 0,.int .i64 0,.int .i64 0],false,.struct [(0,24),(2,37)]⟩:=id rfl
theorem VGa:zE Tryz.prog 217=⟨true,false,1,8,some [.nilFunc],true,.other⟩:=id rfl
theorem VHa:zE Tryz.prog 218=⟨true,false,1,8,some [.nilFunc],true,.other⟩:=id rfl
theorem y8a:zE Tryz.prog 225=⟨true,true,3,24,some [.int .i64 0,.int .i64 0,.int .i64 0],false,.struct [(0,3),(1,3),(2,3)]⟩:=id rfl
theorem VIa:zE Tryz.prog 227=⟨true,false,1,8,some [.nilFunc],true,.other⟩:=id rfl
theorem VJa:zE Tryz.prog 230=⟨true,false,1,8,some [.nilFunc],true,.other⟩:=id rfl
theorem VKa:zE Tryz.prog 232=⟨true,false,1,8,some [.nilFunc],true,.other⟩:=id rfl
theorem XCa:zE Tryz.prog 236=⟨true,true,12,112,some [.int .i64 0,.int .i64 0,.int .i64 0,.int .i64 0,.int .i64 0,.int .i64 0,.int .i64 0,.int .i64 0,.int .i64 0,.int .i64 0,.int .i64 0,.slice none 0 0],false,.struct [(0,75),(11,31)]⟩:=id rfl
theorem XDa:zE Tryz.prog 238=⟨true,false,1,8,some [.nilFunc],true,.other⟩:=id rfl
theorem VLa:zE Tryz.prog 241=⟨true,false,1,8,some [.int .u64 0],true,.int .u64⟩:=id rfl
theorem VMa:zE Tryz.prog 250=⟨true,false,1,8,some [.nilFunc],true,.other⟩:=id rfl
theorem y9a:zE Tryz.prog 258=⟨true,false,1,8,some [.int .u64 0],true,.int .u64⟩:=id rfl
theorem XEa:zE Tryz.prog 265=⟨true,false,1,8,some [.pointer none],true,.ptr 75⟩:=id rfl
theorem VNa:zE Tryz.prog 284=⟨true,false,1,8,some [.nilFunc],true,.other⟩:=id rfl
theorem VOa:zE Tryz.prog 301=⟨true,false,1,8,some [.int .i64 0],true,.int .i64⟩:=id rfl
theorem VPa:zE Tryz.prog 308=⟨true,false,1,4,some [.int .u32 0],true,.int .u32⟩:=id rfl
theorem XFa:zE Tryz.prog 311=⟨true,false,1,8,some [.map none],true,.mapk 3 186⟩:=id rfl
theorem VQa:zE Tryz.prog 315=⟨true,false,1,24,some [.slice none 0 0],true,.slice 55⟩:=id rfl
theorem XGa:zE Tryz.prog 322=⟨true,false,1,24,some [.slice none 0 0],true,.slice 27⟩:=id rfl
theorem VRa:zE Tryz.prog 335=⟨true,false,1,8,some [.int .u64 0],true,.int .u64⟩:=id rfl
theorem Kja:j9 Tryz.prog 24=true:=by unfold j9;rw[Tryz.eqGuardType24,Tryz.stoodInHeld24];rfl
theorem VSa:j9 Tryz.prog 75=true:=by unfold j9;rw[Tryz.eqGuardType75,Tryz.stoodInHeld75];rfl
theorem Yga:j9 Tryz.prog 90=true:=by unfold j9;rw[Tryz.eqGuardType90,Tryz.stoodInHeld90];rfl
theorem XHa:j9 Tryz.prog 105=true:=by unfold j9;rw[Tryz.eqGuardType105,Tryz.stoodInHeld105];rfl
theorem XIa:j9 Tryz.prog 146=true:=by unfold j9;rw[Tryz.eqGuardType146,Tryz.stoodInHeld146];rfl
