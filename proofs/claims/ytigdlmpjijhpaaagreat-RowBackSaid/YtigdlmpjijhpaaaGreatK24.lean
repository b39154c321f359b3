import Derived.Test.YtigdlmpjijhpaaaGreatKA
import Derived.Test.YtigdlmpjijhpaaaGreatK11
import Derived.Scope
import Derived.Test.YtigdlmpjijhpaaaGreatK16
import Derived.Shelf.Bits.Mul64
set_option linter.all false
namespace Go.Proofs.YtigdlmpjijhpaaaGreat.Ax
open Go Go.RowKit
section
variable {P:Program} {N:Nat} {B:Bs} {T:Env} {h:List Ob} {Q:jA}
def Xr(Q:jA):jA:=λe T h=>match e with
 | .goto _=>False
 | e=>Q e T h
theorem wfa:Xr Q .normal T h=Q .normal T h:=id rfl
theorem wga:Xr Q .ret T h=Q .ret T h:=id rfl
theorem wha{i:Nat}:Xr Q (.exit i) T h=Q (.exit i) T h:=id rfl
theorem VR{c:Code}(b:okC N c=true)(k:wpC P N B c (Xr Q) T h): @wM P N B ⟨(.scope c,Q)⟩ T h:=λφ i w g a r=>by
 refine wp_scope_straight (wp_mono (qz c b k φ i w g a r) λe l w' ⟨j,h',d,f⟩=>?_)
 cases e<;>first
  | exact⟨j,h',d,f⟩
  | exact d.elim
theorem wia{a:Bool}{p q:Prop}: @vV (.v undef) a ⟨p⟩ ⟨q⟩=q:=id rfl
theorem QYa{a:Bool}{x:Option AV}:yKa (.v undef) a x=some (.v undef):=id rfl
end
attribute [go_sem] wfa wga wha wia QYa
end Go.Proofs.YtigdlmpjijhpaaaGreat.Ax
namespace Go.Proofs.YtigdlmpjijhpaaaGreat.Ax
open Go Go.Proofs Go.Shelf
def kfa:Go.Shelf.Ren:=⟨fun|212=>301|263=>304|264=>305|n=>n,fun|46=>258|51=>308|146=>356|53=>241|148=>358|n=>n,fun|n=>n⟩
theorem KKa:Go.Proofs.Lays.n212 Tryz.prog kfa:={
 mixed:=by kernel_rfl
 f212:=Tryz.func301.trans (congrArg some (by kernel_rfl))
 f263:=Tryz.func304.trans (congrArg some (by kernel_rfl))
 f264:=Tryz.func305.trans (congrArg some (by kernel_rfl))
 t46:=Tryz.underlying258
 a46:=Tryz.isAgg258
 z46:=Tryz.sizeOf258
 v46:=Tryz.zeroValue258
 t51:=Tryz.underlying308
 a51:=Tryz.isAgg308
 z51:=Tryz.sizeOf308
 v51:=Tryz.zeroValue308
 t53:=Tryz.underlying241
 a53:=Tryz.isAgg241
 z53:=Tryz.sizeOf241
 v53:=Tryz.zeroValue241
 t146:=Tryz.underlying356
 a146:=Tryz.isAgg356
 z146:=Tryz.sizeOf356
 v146:=Tryz.zeroValue356
 t148:=Tryz.underlying358
 a148:=Tryz.isAgg358
 z148:=Tryz.sizeOf358
 v148:=Tryz.zeroValue358 }
theorem ZUa(x y:Nat)(c:x<18446744073709551616)(b:y<18446744073709551616)(w:World):Calls Tryz.prog 301 #[.int .u64 x,.int .u64 y] w λe w'=>e= .returned (.tuple #[.int .u64 ((x*y / 18446744073709551616:Nat):Int),.int .u64 ((x*y % 18446744073709551616:Nat):Int)])/\w'=w:=by
 have a:=Any.bits_Mul KKa x y c b w
 exact a
abbrev u64(n:Int):AV:= .v (.int .u64 n)
theorem Yxa(x y:Nat)(j:x<18446744073709551616)(f:y<18446744073709551616):xv Tryz.prog 301 [u64 x,u64 y] (.tup [u64 ((x*y / 18446744073709551616:Nat):Int),u64 ((x*y % 18446744073709551616:Nat):Int)]):=λh=>by
 refine⟨by kernel_rfl,⟨_,_,⟨rfl,rfl⟩,.refl⟩,?_⟩
 intro φ m B w g vs k hB a
 obtain⟨v1,n,rfl,d,i,l,rfl,b,c⟩:=a
 have c:l=[]:=c
 subst c
 have d:v1= .int .u64 x:=d
 have b:i= .int .u64 y:=b
 subst d;subst b
 refine(ZUa x y j f w).mono ?_
 rintro e w' ⟨rfl,rfl⟩
 exact⟨_,_,_,_,rfl,⟨rfl,rfl⟩,.refl,Good.refl k hB,_,rfl,_,_,rfl,rfl,_,_,rfl,rfl,rfl⟩
