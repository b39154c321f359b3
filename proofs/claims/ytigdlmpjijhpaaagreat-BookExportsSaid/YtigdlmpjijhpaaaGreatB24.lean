import Derived.Test.YtigdlmpjijhpaaaGreatBA
import Derived.Test.YtigdlmpjijhpaaaGreatB11
import Derived.Scope
import Derived.Test.YtigdlmpjijhpaaaGreatB16
import Derived.Shelf.Bits.Mul64
set_option linter.all false
namespace Go.Proofs.YtigdlmpjijhpaaaGreat.Ax
open Go Go.RowKit
section
variable {P:Program} {N:Nat} {B:Bs} {T:Env} {h:List Ob} {Q:jF}
def KV(Q:jF):jF:=λe T h=>match e with
 | .goto _=>False
 | e=>Q e T h
theorem Z4a:KV Q .normal T h=Q .normal T h:=id rfl
theorem Z5a:KV Q .ret T h=Q .ret T h:=id rfl
theorem Z6a{i:Nat}:KV Q (.exit i) T h=Q (.exit i) T h:=id rfl
theorem YZ{c:Code}(b:okC N c=true)(k:wpC P N B c (KV Q) T h): @yD P N B ⟨(.scope c,Q)⟩ T h:=λφ j w g a r=>by
 refine wp_scope_straight (wp_mono (qn c b k φ j w g a r) λe l w' ⟨i,h',d,f⟩=>?_)
 cases e<;>first
  | exact⟨i,h',d,f⟩
  | exact d.elim
theorem Z7a{a:Bool}{p q:Prop}: @wI (.v undef) a ⟨p⟩ ⟨q⟩=q:=id rfl
theorem Vja{a:Bool}{x:Option AV}:JAa (.v undef) a x=some (.v undef):=id rfl
end
attribute [go_sem] Z4a Z5a Z6a Z7a Vja
end Go.Proofs.YtigdlmpjijhpaaaGreat.Ax
namespace Go.Proofs.YtigdlmpjijhpaaaGreat.Ax
open Go Go.Proofs Go.Shelf
def wqa:Go.Shelf.Ren:=⟨fun|212=>301|263=>304|264=>305|n=>n,fun|46=>258|51=>308|146=>356|53=>241|148=>358|n=>n,fun|n=>n⟩
theorem YYa:Go.Proofs.Lays.n212 Tryz.prog wqa:={
 mixed:=by kernel_rfl
 f212:=Tryz.func301.trans (congrArg some (by kernel_rfl))
 f263:=Tryz.func304.trans (congrArg some (by kernel_rfl))
 f264:=Tryz.func305.trans (congrArg some (by kernel_rfl))
 t46:=Tryz.underlying258
 a46:=Tryz.isAgg258
 z46:=Tryz.sizeOf258
 v46:=Tryz.zeroValue258
 t51:=Tryz.underlying308
 a51:=Tryz.isAgg308
 z51:=Tryz.sizeOf308
 v51:=Tryz.zeroValue308
 t53:=Tryz.underlying241
 a53:=Tryz.isAgg241
 z53:=Tryz.sizeOf241
 v53:=Tryz.zeroValue241
 t146:=Tryz.underlying356
 a146:=Tryz.isAgg356
 z146:=Tryz.sizeOf356
 v146:=Tryz.zeroValue356
 t148:=Tryz.underlying358
 a148:=Tryz.isAgg358
 z148:=Tryz.sizeOf358
 v148:=Tryz.zeroValue358 }
theorem Xya(x y:Nat)(b:x<18446744073709551616)(c:y<18446744073709551616)(w:World):Calls Tryz.prog 301 #[.int .u64 x,.int .u64 y] w λe w'=>e= .returned (.tuple #[.int .u64 ((x*y / 18446744073709551616:Nat):Int),.int .u64 ((x*y % 18446744073709551616:Nat):Int)])/\w'=w:=by
 have a:=Any.bits_Mul YYa x y b c w
 exact a
abbrev u64(n:Int):AV:= .v (.int .u64 n)
theorem xtb(x y:Nat)(j:x<18446744073709551616)(k:y<18446744073709551616):xw Tryz.prog 301 [u64 x,u64 y] (.tup [u64 ((x*y / 18446744073709551616:Nat):Int),u64 ((x*y % 18446744073709551616:Nat):Int)]):=λh=>by
 refine⟨by kernel_rfl,⟨_,_,⟨rfl,rfl⟩,.refl⟩,?_⟩
 intro φ m B w g vs l hB a
 obtain⟨v1,n,rfl,d,f,i,rfl,c,b⟩:=a
 have b:i=[]:=b
 subst b
 have d:v1= .int .u64 x:=d
 have c:f= .int .u64 y:=c
 subst d;subst c
 refine(Xya x y j k w).mono ?_
 rintro e w' ⟨rfl,rfl⟩
 exact⟨_,_,_,_,rfl,⟨rfl,rfl⟩,.refl,Good.refl l hB,_,rfl,_,_,rfl,rfl,_,_,rfl,rfl,rfl⟩
