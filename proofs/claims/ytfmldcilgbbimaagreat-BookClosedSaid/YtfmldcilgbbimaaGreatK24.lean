/-
  Joined.
-/
import Derived.Test.YtfmldcilgbbimaaGreatK11
import Derived.Scope
import Derived.Test.YtfmldcilgbbimaaGreatK16
import Derived.Shelf.Bits.Mul64
set_option linter.unusedSimpArgs false
set_option linter.unusedVariables false
namespace Go.Proofs.YtfmldcilgbbimaaGreat.Ax
open Go Go.RowKit
section
variable {P:Program} {N:Nat} {B:Bs} {T:Env} {h:List Ob} {Q:jv}
def K4 (Q:jv):jv:=λe T h=>match e with
 | .goto _=>False
 | e=>Q e T h
theorem woa:K4 Q .normal T h=Q .normal T h:=id rfl
theorem wpa:K4 Q .ret T h=Q .ret T h:=id rfl
theorem wqa {i:Nat}:K4 Q (.exit i) T h=Q (.exit i) T h:=id rfl
theorem Wb {c:Code} (b:okC N c=true) (k:wpC P N B c (K4 Q) T h): @yk P N B ⟨(.scope c,Q)⟩ T h:=λφ j w g a r=>by
 refine wp_scope_straight (wp_mono (zL c b k φ j w g a r) λe l w' ⟨f,h',d,i⟩=>?_)
 cases e<;>first
  | exact ⟨f,h',d,i⟩
  | exact d.elim
theorem wra {a:Bool} {p q:Prop}: @kW (.v undef) a ⟨p⟩ ⟨q⟩=q:=id rfl
theorem Jra {a:Bool} {x:Option AV}:yXa (.v undef) a x=some (.v undef):=id rfl
end
attribute [go_sem] woa wpa wqa wra Jra
end Go.Proofs.YtfmldcilgbbimaaGreat.Ax
namespace Go.Proofs.YtfmldcilgbbimaaGreat.Ax
open Go Go.Proofs Go.Shelf
def x5a:Go.Shelf.Ren:=⟨fun | 212=>278 | 263=>281 | 264=>282 | n=>n,fun | 46=>234 | 51=>281 | 146=>329 | 53=>221 | 148=>331 | n=>n,fun | n=>n⟩
theorem KTa:Go.Proofs.Lays.n212 Tryz.prog x5a:={
 mixed:=by kernel_rfl
 f212:=Tryz.func278.trans (congrArg some (by kernel_rfl))
 f263:=Tryz.func281.trans (congrArg some (by kernel_rfl))
 f264:=Tryz.func282.trans (congrArg some (by kernel_rfl))
 t46:=Tryz.underlying234
 a46:=Tryz.isAgg234
 z46:=Tryz.sizeOf234
 v46:=Tryz.zeroValue234
 t51:=Tryz.underlying281
 a51:=Tryz.isAgg281
 z51:=Tryz.sizeOf281
 v51:=Tryz.zeroValue281
 t53:=Tryz.underlying221
 a53:=Tryz.isAgg221
 z53:=Tryz.sizeOf221
 v53:=Tryz.zeroValue221
 t146:=Tryz.underlying329
 a146:=Tryz.isAgg329
 z146:=Tryz.sizeOf329
 v146:=Tryz.zeroValue329
 t148:=Tryz.underlying331
 a148:=Tryz.isAgg331
 z148:=Tryz.sizeOf331
 v148:=Tryz.zeroValue331 }
theorem ZXa (x y:Nat) (c:x<18446744073709551616) (b:y<18446744073709551616) (w:World):Calls Tryz.prog 278 #[.int .u64 x,.int .u64 y] w λe w'=>e= .returned (.tuple #[.int .u64 ((x*y / 18446744073709551616:Nat):Int),.int .u64 ((x*y % 18446744073709551616:Nat):Int)])/\w'=w:=by
 have a:=Any.bits_Mul KTa x y c b w
 exact a
abbrev u64 (n:Int):AV:= .v (.int .u64 n)
theorem Y1a (x y:Nat) (f:x<18446744073709551616) (l:y<18446744073709551616):ji Tryz.prog 278 [u64 x,u64 y] (.tup [u64 ((x*y / 18446744073709551616:Nat):Int),u64 ((x*y % 18446744073709551616:Nat):Int)]):=λh=>by
 refine ⟨by kernel_rfl,⟨_,_,⟨rfl,rfl⟩,.refl⟩,?_⟩
 intro φ n B w g vs j hB a
 obtain ⟨v1,m,rfl,c,k,i,rfl,b,d⟩:=a
 have d:i=[]:=d
 subst d
 have c:v1= .int .u64 x:=c
 have b:k= .int .u64 y:=b
 subst c;subst b
 refine (ZXa x y f l w).mono ?_
 rintro e w' ⟨rfl,rfl⟩
 exact ⟨_,_,_,_,rfl,⟨rfl,rfl⟩,.refl,Good.refl j hB,_,rfl,_,_,rfl,rfl,_,_,rfl,rfl,rfl⟩
end Go.Proofs.YtfmldcilgbbimaaGreat.Ax
