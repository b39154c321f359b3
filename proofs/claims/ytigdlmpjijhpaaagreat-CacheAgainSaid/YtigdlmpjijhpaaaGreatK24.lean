import Derived.Test.YtigdlmpjijhpaaaGreatKA
import Derived.Test.YtigdlmpjijhpaaaGreatK11
import Derived.Scope
import Derived.Test.YtigdlmpjijhpaaaGreatK16
import Derived.Shelf.Bits.Mul64
set_option linter.all false
namespace Go.Proofs.YtigdlmpjijhpaaaGreat.Ax
open Go Go.RowKit
section
variable {P:Program} {N:Nat} {B:Bs} {T:Env} {h:List Ob} {Q:xV}
def W8(Q:xV):xV:=λe T h=>match e with
 | .goto _=>False
 | e=>Q e T h
theorem Qla:W8 Q .normal T h=Q .normal T h:=id rfl
theorem Qma:W8 Q .ret T h=Q .ret T h:=id rfl
theorem Qna{i:Nat}:W8 Q (.exit i) T h=Q (.exit i) T h:=id rfl
theorem zia{c:Code}(b:okC N c=true)(k:wpC P N B c (W8 Q) T h): @Z7 P N B ⟨(.scope c,Q)⟩ T h:=λφ j w g a r=>by
 refine wp_scope_straight (wp_mono (qD c b k φ j w g a r) λe l w' ⟨i,h',d,f⟩=>?_)
 cases e<;>first
  | exact⟨i,h',d,f⟩
  | exact d.elim
theorem Qoa{want:Bool}{p q:Prop}: @wW (.v undef) want ⟨p⟩ ⟨q⟩=q:=id rfl
theorem VXa{want:Bool}{x:Option AV}:J7a (.v undef) want x=some (.v undef):=id rfl
end
attribute [go_sem] Qla Qma Qna Qoa VXa
end Go.Proofs.YtigdlmpjijhpaaaGreat.Ax
namespace Go.Proofs.YtigdlmpjijhpaaaGreat.Ax
open Go Go.Proofs Go.Shelf
def wAa:Go.Shelf.Ren:=⟨fun|212=>301|263=>304|264=>305|n=>n,fun|46=>258|51=>308|146=>356|53=>241|148=>358|n=>n,fun|n=>n⟩
theorem zDb:Go.Proofs.Lays.n212 Tryz.prog wAa:={
 mixed:=by kernel_rfl
 f212:=Tryz.func301.trans (congrArg some (by kernel_rfl))
 f263:=Tryz.func304.trans (congrArg some (by kernel_rfl))
 f264:=Tryz.func305.trans (congrArg some (by kernel_rfl))
 t46:=Tryz.underlying258
 a46:=Tryz.isAgg258
 z46:=Tryz.sizeOf258
 v46:=Tryz.zeroValue258
 t51:=Tryz.underlying308
 a51:=Tryz.isAgg308
 z51:=Tryz.sizeOf308
 v51:=Tryz.zeroValue308
 t53:=Tryz.underlying241
 a53:=Tryz.isAgg241
 z53:=Tryz.sizeOf241
 v53:=Tryz.zeroValue241
 t146:=Tryz.underlying356
 a146:=Tryz.isAgg356
 z146:=Tryz.sizeOf356
 v146:=Tryz.zeroValue356
 t148:=Tryz.underlying358
 a148:=Tryz.isAgg358
 z148:=Tryz.sizeOf358
 v148:=Tryz.zeroValue358 }
theorem X7a(x y:Nat)(b:x<18446744073709551616)(c:y<18446744073709551616)(w:World):Calls Tryz.prog 301 #[.int .u64 x,.int .u64 y] w λe w'=>e= .returned (.tuple #[.int .u64 ((x*y / 18446744073709551616:Nat):Int),.int .u64 ((x*y % 18446744073709551616:Nat):Int)])/\w'=w:=by
 have a:=Any.bits_Mul zDb x y b c w
 exact a
abbrev u64(n:Int):AV:= .v (.int .u64 n)
theorem khb(x y:Nat)(f:x<18446744073709551616)(j:y<18446744073709551616):xA Tryz.prog 301 [u64 x,u64 y] (.tup [u64 ((x*y / 18446744073709551616:Nat):Int),u64 ((x*y % 18446744073709551616:Nat):Int)]):=λh=>by
 refine⟨by kernel_rfl,⟨_,_,⟨rfl,rfl⟩,.refl⟩,?_⟩
 intro φ n B w g vs i hB a
 obtain⟨v1,m,rfl,d,l,k,rfl,c,b⟩:=a
 have b:k=[]:=b
 subst b
 have d:v1= .int .u64 x:=d
 have c:l= .int .u64 y:=c
 subst d;subst c
 refine(X7a x y f j w).mono ?_
 rintro e w' ⟨rfl,rfl⟩
 exact⟨_,_,_,_,rfl,⟨rfl,rfl⟩,.refl,Good.refl i hB,_,rfl,_,_,rfl,rfl,_,_,rfl,rfl,rfl⟩
