/-
  Joined.
-/
import Derived.Test.YtfmldcilgbbimaaGreatK04
import Derived.Test.YtfmldcilgbbimaaGreatProg
import Derived.Test.YtfmldcilgbbimaaGreatK10
set_option linter.unusedSimpArgs false
set_option linter.unusedVariables false
namespace Go.Proofs.YtfmldcilgbbimaaGreat.Ax
open Go Go.Proofs
set_option maxRecDepth 100000
theorem ty3:zl Tryz.prog 3=⟨true,false,1,8,some [.int .i64 0],true,.int .i64⟩:=id rfl
theorem ty4:zl Tryz.prog 4=⟨true,false,1,1,some [.bool false],true,.bool⟩:=id rfl
theorem ty5:zl Tryz.prog 5=⟨true,false,1,1,some [.int .u8 0],true,.int .u8⟩:=id rfl
theorem ty9:zl Tryz.prog 9=⟨true,false,1,16,some [.string ⟨#[]⟩],true,.str⟩:=id rfl
theorem Yna:zl Tryz.prog 20=⟨true,false,1,16,some [.nilIface],true,.other⟩:=id rfl
theorem QNa:zl Tryz.prog 22=⟨true,false,1,24,some [.slice none 0 0],true,.slice 205⟩:=id rfl
theorem QOa:zl Tryz.prog 24=⟨true,true,2,16,some [.int .i64 0,.int .i64 0],false,.struct [(0,3),(1,3)]⟩:=id rfl
theorem QPa:zl Tryz.prog 25=⟨true,false,1,24,some [.slice none 0 0],true,.slice 166⟩:=id rfl
theorem yoa:zl Tryz.prog 26=⟨true,false,1,24,some [.slice none 0 0],true,.slice 24⟩:=id rfl
theorem vHa:zl Tryz.prog 27=⟨true,false,1,24,some [.slice none 0 0],true,.slice 3⟩:=id rfl
theorem QQa:zl Tryz.prog 28=⟨true,false,1,24,some [.slice none 0 0],true,.slice 168⟩:=id rfl
theorem Vya:zl Tryz.prog 30=⟨true,true,23,280,some [.int .i64 0,.slice none 0 0,.int .i64 0,.int .i64 0,.slice none 0 0,.slice none 0 0,.slice none 0 0,.int .i64 0,.int .i64 0,.int .i64 0,.int .i64 0,.int .i64 0,.int .i64 0,.int .i64 0,.int .i64 0,.int .i64 0,.int .i64 0,.int .i64 0,.slice none 0 0,.int .i64 0,.int .i64 0,.int .i64 0,.slice none 0 0],false,.struct [(0,3),(1,22),(2,24),(4,25),(5,26),(6,26),(7,3),(8,3),(9,3),(10,3),(11,3),(12,3),(13,3),(14,3),(15,3),(16,3),(17,3),(18,27),(19,3),(20,3),(21,3),(22,28)]⟩:=id rfl
theorem QRa:zl Tryz.prog 31=⟨true,false,1,24,some [.slice none 0 0],true,.slice 73⟩:=id rfl
theorem Yoa:zl Tryz.prog 32=⟨true,false,1,24,some [.slice none 0 0],true,.slice 45⟩:=id rfl
theorem Ypa:zl Tryz.prog 33=⟨true,false,1,24,some [.slice none 0 0],true,.slice 5⟩:=id rfl
theorem Kaa:zl Tryz.prog 37=⟨true,false,1,8,some [.int .i64 0],true,.int .i64⟩:=id rfl
theorem Yqa:zl Tryz.prog 42=⟨true,true,7,56,some [.int .i64 0,.int .i64 0,.int .i64 0,.int .i64 0,.int .i64 0,.int .i64 0,.int .i64 0],false,.arr 7 3⟩:=id rfl
theorem Vza:zl Tryz.prog 43=⟨true,false,1,24,some [.slice none 0 0],true,.slice 97⟩:=id rfl
theorem Yra:zl Tryz.prog 45=⟨true,true,27,232,some [.int .i64 0,.int .i64 0,.int .i64 0,.int .i64 0,.int .i64 0,.int .i64 0,.int .i64 0,.int .i64 0,.int .i64 0,.int .i64 0,.int .i64 0,.int .i64 0,.int .i64 0,.int .i64 0,.int .i64 0,.int .i64 0,.int .i64 0,.int .i64 0,.int .i64 0,.int .i64 0,.int .i64 0,.int .i64 0,.int .i64 0,.int .i64 0,.int .i64 0,.int .i64 0,.slice none 0 0],false,.struct [(0,3),(1,3),(2,37),(3,42),(10,42),(17,24),(19,24),(21,3),(22,3),(23,3),(24,3),(25,3),(26,43)]⟩:=id rfl
theorem VAa:zl Tryz.prog 51=⟨true,false,1,24,some [.slice none 0 0],true,.slice 137⟩:=id rfl
theorem VBa:zl Tryz.prog 55=⟨true,false,1,24,some [.slice none 0 0],true,.slice 134⟩:=id rfl
theorem Ysa:zl Tryz.prog 59=⟨true,false,1,2,some [.int .u16 0],true,.int .u16⟩:=id rfl
theorem Yta:zl Tryz.prog 62=⟨true,false,1,24,some [.slice none 0 0],true,.slice 77⟩:=id rfl
theorem Yua:zl Tryz.prog 64=⟨true,true,25,328,some [.int .i64 0,.slice none 0 0,.int .i64 0,.int .i64 0,.slice none 0 0,.slice none 0 0,.slice none 0 0,.int .i64 0,.int .i64 0,.int .i64 0,.int .i64 0,.int .i64 0,.int .i64 0,.int .i64 0,.int .i64 0,.int .i64 0,.int .i64 0,.int .i64 0,.slice none 0 0,.int .i64 0,.int .i64 0,.int .i64 0,.slice none 0 0,.slice none 0 0,.slice none 0 0],false,.struct [(0,30),(23,31),(24,27)]⟩:=id rfl
theorem Yva:zl Tryz.prog 69=⟨true,true,4,80,some [.int .i64 0,.slice none 0 0,.slice none 0 0,.slice none 0 0],false,.struct [(0,37),(1,32),(2,51),(3,33)]⟩:=id rfl
theorem QSa:zl Tryz.prog 73=⟨true,true,11,88,some [.int .i64 0,.int .i64 0,.int .i64 0,.int .i64 0,.int .i64 0,.int .i64 0,.int .i64 0,.int .i64 0,.int .i64 0,.int .i64 0,.int .i64 0],false,.struct [(0,3),(1,3),(2,3),(3,3),(4,3),(5,3),(6,3),(7,3),(8,3),(9,3),(10,3)]⟩:=id rfl
theorem Ywa:zl Tryz.prog 75=⟨true,true,12,96,some [.int .i64 0,.int .i64 0,.int .i64 0,.int .i64 0,.int .i64 0,.int .i64 0,.int .i64 0,.int .i64 0,.int .i64 0,.int .i64 0,.int .i64 0,.int .i64 0],false,.struct [(0,3),(1,73)]⟩:=id rfl
theorem Yxa:zl Tryz.prog 77=⟨true,true,16,128,some [.int .i64 0,.int .i64 0,.int .i64 0,.int .i64 0,.int .i64 0,.int .i64 0,.int .i64 0,.int .i64 0,.int .i64 0,.int .i64 0,.int .i64 0,.int .i64 0,.int .i64 0,.int .i64 0,.int .i64 0,.int .i64 0],false,.struct [(0,3),(1,75),(13,3),(14,3),(15,3)]⟩:=id rfl
theorem Yya:zl Tryz.prog 81=⟨true,false,1,24,some [.slice none 0 0],true,.slice 69⟩:=id rfl
theorem Yza:zl Tryz.prog 86=⟨true,false,1,24,some [.slice none 0 0],true,.slice 89⟩:=id rfl
theorem VCa:zl Tryz.prog 89=⟨true,true,2,16,some [.int .i64 0,.int .i64 0],false,.struct [(0,3),(1,3)]⟩:=id rfl
theorem VDa:zl Tryz.prog 97=⟨true,true,2,16,some [.int .i64 0,.int .i64 0],false,.struct [(0,3),(1,3)]⟩:=id rfl
theorem YAa:zl Tryz.prog 99=⟨true,true,2,32,some [.slice none 0 0,.bool false],false,.struct [(0,33),(1,4)]⟩:=id rfl
theorem VEa:zl Tryz.prog 100=⟨true,false,1,8,some [.nilFunc],true,.other⟩:=id rfl
theorem XAa:zl Tryz.prog 101=⟨true,false,1,8,some [.pointer none],true,.ptr 3⟩:=id rfl
theorem VFa:zl Tryz.prog 103=⟨true,false,1,8,some [.pointer none],true,.ptr 99⟩:=id rfl
theorem VGa:zl Tryz.prog 105=⟨true,true,0,0,some [],false,.struct []⟩:=id rfl
theorem VHa:zl Tryz.prog 108=⟨true,true,2,32,some [.slice none 0 0,.bool false],false,.struct [(0,99)]⟩:=id rfl
theorem VIa:zl Tryz.prog 111=⟨true,false,1,8,some [.pointer none],true,.ptr 45⟩:=id rfl
theorem VJa:zl Tryz.prog 115=⟨true,false,1,8,some [.nilFunc],true,.other⟩:=id rfl
theorem VKa:zl Tryz.prog 117=⟨true,false,1,24,some [.slice none 0 0],true,.slice 175⟩:=id rfl
theorem XBa:zl Tryz.prog 126=⟨true,false,1,8,some [.pointer none],true,.ptr 129⟩:=id rfl
theorem XCa:zl Tryz.prog 127=⟨true,false,1,8,some [.pointer none],true,.ptr 216⟩:=id rfl
theorem XDa:zl Tryz.prog 129=⟨true,true,26,336,some [.int .i64 0,.slice none 0 0,.int .i64 0,.int .i64 0,.slice none 0 0,.slice none 0 0,.slice none 0 0,.int .i64 0,.int .i64 0,.int .i64 0,.int .i64 0,.int .i64 0,.int .i64 0,.int .i64 0,.int .i64 0,.int .i64 0,.int .i64 0,.int .i64 0,.slice none 0 0,.int .i64 0,.int .i64 0,.int .i64 0,.slice none 0 0,.pointer none,.slice none 0 0,.slice none 0 0],false,.struct [(0,30),(23,127),(24,51),(25,43)]⟩:=id rfl
theorem XEa:zl Tryz.prog 134=⟨true,true,2,16,some [.int .i64 0,.int .i64 0],false,.struct [(0,3),(1,3)]⟩:=id rfl
theorem XFa:zl Tryz.prog 137=⟨true,true,5,40,some [.int .i64 0,.int .i64 0,.int .i64 0,.int .i64 0,.int .i64 0],false,.struct [(0,3),(1,3),(2,3),(3,3),(4,3)]⟩:=id rfl
theorem XGa:zl Tryz.prog 138=⟨true,false,1,8,some [.nilFunc],true,.other⟩:=id rfl
theorem VLa:zl Tryz.prog 141=⟨true,false,1,8,some [.nilFunc],true,.other⟩:=id rfl
theorem VMa:zl Tryz.prog 142=⟨true,false,1,8,some [.pointer none],true,.ptr 145⟩:=id rfl
theorem VNa:zl Tryz.prog 143=⟨true,false,1,8,some [.map none],true,.mapk 3 141⟩:=id rfl
theorem VOa:zl Tryz.prog 145=⟨true,true,45,536,some [.int .i64 0,.slice none 0 0,.int .i64 0,.int .i64 0,.slice none 0 0,.slice none 0 0,.slice none 0 0,.int .i64 0,.int .i64 0,.int .i64 0,.int .i64 0,.int .i64 0,.int .i64 0,.int .i64 0,.int .i64 0,.int .i64 0,.int .i64 0,.int .i64 0,.slice none 0 0,.int .i64 0,.int .i64 0,.int .i64 0,.slice none 0 0,.slice none 0 0,.slice none 0 0,.int .i64 0,.slice none 0 0,.slice none 0 0,.slice none 0 0,.int .i64 0,.int .i64 0,.int .i64 0,.int .i64 0,.int .i64 0,.int .i64 0,.int .i64 0,.int .i64 0,.int .i64 0,.int .i64 0,.int .i64 0,.int .i64 0,.int .i64 0,.int .i64 0,.int .i64 0,.int .i64 0],false,.struct [(0,64),(25,69),(29,77)]⟩:=id rfl
theorem VPa:zl Tryz.prog 152=⟨true,true,12,96,some [.int .i64 0,.int .i64 0,.int .i64 0,.int .i64 0,.int .i64 0,.int .i64 0,.int .i64 0,.int .i64 0,.int .i64 0,.int .i64 0,.int .i64 0,.int .i64 0],false,.struct [(0,3),(1,73)]⟩:=id rfl
theorem VQa:zl Tryz.prog 155=⟨true,false,1,8,some [.map none],true,.mapk 89 3⟩:=id rfl
theorem VRa:zl Tryz.prog 161=⟨true,false,1,8,some [.nilFunc],true,.other⟩:=id rfl
theorem VSa:zl Tryz.prog 164=⟨true,false,1,8,some [.nilFunc],true,.other⟩:=id rfl
theorem ypa:zl Tryz.prog 166=⟨true,true,4,32,some [.int .i64 0,.int .i64 0,.int .i64 0,.int .i64 0],false,.struct [(0,24),(2,24)]⟩:=id rfl
theorem yqa:zl Tryz.prog 168=⟨true,true,2,16,some [.int .i64 0,.int .i64 0],false,.struct [(0,3),(1,3)]⟩:=id rfl
theorem XHa:zl Tryz.prog 169=⟨true,false,1,24,some [.slice none 0 0],true,.slice 101⟩:=id rfl
theorem VTa:zl Tryz.prog 170=⟨true,false,1,8,some [.pointer none],true,.ptr 108⟩:=id rfl
theorem VUa:zl Tryz.prog 175=⟨true,true,3,24,some [.int .i64 0,.int .i64 0,.int .i64 0],false,.struct [(0,3),(1,3),(2,3)]⟩:=id rfl
theorem VVa:zl Tryz.prog 182=⟨true,true,3,72,some [.slice none 0 0,.slice none 0 0,.slice none 0 0],false,.arr 3 55⟩:=id rfl
theorem VWa:zl Tryz.prog 187=⟨true,false,1,8,some [.nilFunc],true,.other⟩:=id rfl
theorem XIa:zl Tryz.prog 191=⟨true,true,3,24,some [.int .i64 0,.int .i64 0,.int .i64 0],false,.struct [(0,24),(2,37)]⟩:=id rfl
theorem VXa:zl Tryz.prog 197=⟨true,false,1,8,some [.nilFunc],true,.other⟩:=id rfl
theorem VYa:zl Tryz.prog 198=⟨true,false,1,8,some [.nilFunc],true,.other⟩:=id rfl
theorem yra:zl Tryz.prog 205=⟨true,true,3,24,some [.int .i64 0,.int .i64 0,.int .i64 0],false,.struct [(0,3),(1,3),(2,3)]⟩:=id rfl
theorem VZa:zl Tryz.prog 207=⟨true,false,1,8,some [.nilFunc],true,.other⟩:=id rfl
theorem V0a:zl Tryz.prog 210=⟨true,false,1,8,some [.nilFunc],true,.other⟩:=id rfl
theorem V1a:zl Tryz.prog 212=⟨true,false,1,8,some [.nilFunc],true,.other⟩:=id rfl
theorem XJa:zl Tryz.prog 216=⟨true,true,12,112,some [.int .i64 0,.int .i64 0,.int .i64 0,.int .i64 0,.int .i64 0,.int .i64 0,.int .i64 0,.int .i64 0,.int .i64 0,.int .i64 0,.int .i64 0,.slice none 0 0],false,.struct [(0,73),(11,31)]⟩:=id rfl
theorem XKa:zl Tryz.prog 218=⟨true,false,1,8,some [.nilFunc],true,.other⟩:=id rfl
theorem V2a:zl Tryz.prog 221=⟨true,false,1,8,some [.int .u64 0],true,.int .u64⟩:=id rfl
theorem V3a:zl Tryz.prog 228=⟨true,false,1,8,some [.nilFunc],true,.other⟩:=id rfl
theorem ysa:zl Tryz.prog 234=⟨true,false,1,8,some [.int .u64 0],true,.int .u64⟩:=id rfl
theorem XLa:zl Tryz.prog 239=⟨true,false,1,8,some [.pointer none],true,.ptr 73⟩:=id rfl
theorem V4a:zl Tryz.prog 259=⟨true,false,1,8,some [.nilFunc],true,.other⟩:=id rfl
theorem V5a:zl Tryz.prog 273=⟨true,false,1,8,some [.int .i64 0],true,.int .i64⟩:=id rfl
theorem V6a:zl Tryz.prog 281=⟨true,false,1,4,some [.int .u32 0],true,.int .u32⟩:=id rfl
theorem XMa:zl Tryz.prog 282=⟨true,false,1,8,some [.map none],true,.mapk 3 169⟩:=id rfl
theorem V7a:zl Tryz.prog 288=⟨true,false,1,24,some [.slice none 0 0],true,.slice 55⟩:=id rfl
theorem XNa:zl Tryz.prog 295=⟨true,false,1,24,some [.slice none 0 0],true,.slice 27⟩:=id rfl
theorem V8a:zl Tryz.prog 309=⟨true,false,1,8,some [.int .u64 0],true,.int .u64⟩:=id rfl
theorem Kba:jz Tryz.prog 24=true:=by unfold jz;rw[Tryz.eqGuardType24,Tryz.stoodInHeld24];rfl
theorem V9a:jz Tryz.prog 73=true:=by unfold jz;rw[Tryz.eqGuardType73,Tryz.stoodInHeld73];rfl
theorem Waa:jz Tryz.prog 97=true:=by unfold jz;rw[Tryz.eqGuardType97,Tryz.stoodInHeld97];rfl
theorem XOa:jz Tryz.prog 137=true:=by unfold jz;rw[Tryz.eqGuardType137,Tryz.stoodInHeld137];rfl
end Go.Proofs.YtfmldcilgbbimaaGreat.Ax
namespace Go.Proofs.YtfmldcilgbbimaaGreat.Ax
open Go Go.RowKit
section
variable {P:Program} {N:Nat} {B:Bs} {T:Env} {h:List Ob} {Q Q':jv}
theorem Yu {b:Bool} {p q a c:Prop} (d:p->a) (f:q->c) (k: @KS b ⟨p⟩ ⟨q⟩): @KS b ⟨a⟩ ⟨c⟩:=⟨λe=>d (k.1 e),λe=>f (k.2 e)⟩
theorem Yv {o:Oper} {K K':Env->List Ob->Prop} (b:∀T h,K T h->K' T h) (k:KT P T h o K):KT P T h o K':=by
 unfold KT at k⊢
 cases c:zY o.op with
 | some q=>
   rw[c] at k
   simp only[Vu] at k⊢
   split at k
   ·exact ACalls.mono k λr h'=>b _ _
   ·split at k
    ·rename_i a
     simp only[if_pos a]
     exact ZY k λh'=>b _ _
    ·exact k.elim
   ·exact k.elim
 | none=>
   rw[c] at k
   simp only[Vt] at k⊢
   split at k
   ·exact b _ _ k
   ·exact k.elim
theorem qOa {ops:Array Oper} {K K':Env->List Ob->Prop} (d:∀T h,K T h->K' T h):∀(l:List Oper) {T:Env} {h:List Ob},wpR P ops K l T h->wpR P ops K' l T h
 | [],_,_,k=>d _ _ k
 | o::r,T,h,k=>by
   have a:∀T h,wpR P ops K r T h->wpR P ops K' r T h:=λT h=>qOa d r
   unfold wpR at k⊢
   cases b:o.guard with
   | none=>simp only[b] at k ⊢;exact Yv a k
   | some q=>
     obtain ⟨j,c⟩:=q
     simp only[b] at k⊢
     unfold kW at k⊢
     split at k
     ·exact Yu (Yv a) (a _ _) k
     ·exact a _ _ k
     ·exact k.elim
theorem wy {c:Code} (a:∀e T h,Q e T h->Q' e T h) (k: @yk P N B ⟨(c,Q)⟩ T h): @yk P N B ⟨(c,Q')⟩ T h:=AWp.mono k a
theorem Zha:∀(c:Code) {Q Q':jv} {T:Env} {h:List Ob},(∀e T h,Q e T h->Q' e T h)->wpC P N B c Q T h->wpC P N B c Q' T h:=by
 intro c
 induction c with
 | skip=>intro Q Q' T h g k;exact g _ _ _ k
 | label l=>intro Q Q' T h g k;exact g _ _ _ k
 | seq a b m i=>
   intro Q Q' T h g k
   refine m (λe T h q=>?_) k
   cases e<;>first
    | exact i g q
    | exact g _ _ _ q
 | region id ops d=>
   intro Q Q' T h g k
   cases d with
   | false=>exact qOa (g _) _ k
   | true=>exact wy g k
 | cond x a b m i=>
   intro Q Q' T h g k
   unfold wpC Vs at k⊢
   split at k
   ·exact Yu (m g) (i g) k
   ·exact k.elim
 | block id c n=>
   intro Q Q' T h g k
   refine n (λe T h q=>?_) k
   cases e<;>try exact g _ _ _ q
   rename_i j
   by_cases o:j=id
   ·rw[Vw,if_pos o] at q ⊢;exact g _ _ _ q
   ·rw[Vw,if_neg o] at q ⊢;exact g _ _ _ q
 | loop c n=>intro Q Q' T h g k;exact wy g k
 | exit id=>intro Q Q' T h g k;exact g _ _ _ k
 | ret=>intro Q Q' T h g k;exact g _ _ _ k
 | rangeFunc f p a b _ _=>intro Q Q' T h g k;exact wy g k
 | scope b _=>intro Q Q' T h g k;exact wy g k
 | goto l=>intro Q Q' T h g k;exact wy g k
 | refuse w=>intro Q Q' T h g k;exact wy g k
theorem Zi {a b:Code} (S:Env->List Ob->Prop) (c:wpC P N B a (vO S Q) T h) (d:∀T h,S T h->wpC P N B b Q T h):wpC P N B (.seq a b) Q T h:=by
 refine Zha a (λe T h q=>?_) c
 cases e<;>first
  | exact d _ _ q
  | exact q
theorem qPa {K K':Env->List Ob->Prop}:vO K (vO K' Q)=vO K Q:=by
 funext e T h
 cases e<;>rfl
theorem jn {a b c:Code}:wpC P N B (.seq a (.seq b c)) Q T h=wpC P N B (.seq (.seq a b) c) Q T h:=by
 rw[JZ,JZ,JZ,qPa]
 rfl
theorem xGa {c:Code} (S:Env->List Ob->Prop) (a:(∀T h,S T h->AWp P N B c Q T h)->AWp P N B c Q T h) (k:∀T h,S T h-> @yk P N B ⟨(c,Q)⟩ T h): @yk P N B ⟨(c,Q)⟩ T h:=a k
end
end Go.Proofs.YtfmldcilgbbimaaGreat.Ax
