/-
  Joined.
-/
import Derived.Test.YtfmldcilgbbimaaGreatK11
import Derived.Scope
import Derived.Test.YtfmldcilgbbimaaGreatK16
import Derived.Shelf.Bits.Mul64
set_option linter.unusedSimpArgs false
set_option linter.unusedVariables false
namespace Go.Proofs.YtfmldcilgbbimaaGreat.Ax
open Go Go.RowKit
section
variable {P:Program} {N:Nat} {B:Bs} {T:Env} {h:List Ob} {Q:jl}
def JU (Q:jl):jl:=λe T h=>match e with
 | .goto _=>False
 | e=>Q e T h
theorem jOa:JU Q .normal T h=Q .normal T h:=id rfl
theorem jPa:JU Q .ret T h=Q .ret T h:=id rfl
theorem jQa {i:Nat}:JU Q (.exit i) T h=Q (.exit i) T h:=id rfl
theorem XP {c:Code} (b:okC N c=true) (k:wpC P N B c (JU Q) T h): @we P N B ⟨(.scope c,Q)⟩ T h:=λφ i w g a r=>by
 refine wp_scope_straight (wp_mono (qr c b k φ i w g a r) λe l w' ⟨j,h',d,f⟩=>?_)
 cases e<;>first
  | exact ⟨j,h',d,f⟩
  | exact d.elim
theorem jRa {a:Bool} {p q:Prop}: @xK (.v undef) a ⟨p⟩ ⟨q⟩=q:=id rfl
theorem wja {a:Bool} {x:Option AV}:x8a (.v undef) a x=some (.v undef):=id rfl
end
attribute [go_sem] jOa jPa jQa jRa wja
end Go.Proofs.YtfmldcilgbbimaaGreat.Ax
namespace Go.Proofs.YtfmldcilgbbimaaGreat.Ax
open Go Go.Proofs Go.Shelf
def zNa:Go.Shelf.Ren:=⟨fun | 212=>278 | 263=>281 | 264=>282 | n=>n,fun | 46=>234 | 51=>281 | 146=>329 | 53=>221 | 148=>331 | n=>n,fun | n=>n⟩
theorem Zpa:Go.Proofs.Lays.n212 Tryz.prog zNa:={
 mixed:=by kernel_rfl
 f212:=Tryz.func278.trans (congrArg some (by kernel_rfl))
 f263:=Tryz.func281.trans (congrArg some (by kernel_rfl))
 f264:=Tryz.func282.trans (congrArg some (by kernel_rfl))
 t46:=Tryz.underlying234
 a46:=Tryz.isAgg234
 z46:=Tryz.sizeOf234
 v46:=Tryz.zeroValue234
 t51:=Tryz.underlying281
 a51:=Tryz.isAgg281
 z51:=Tryz.sizeOf281
 v51:=Tryz.zeroValue281
 t53:=Tryz.underlying221
 a53:=Tryz.isAgg221
 z53:=Tryz.sizeOf221
 v53:=Tryz.zeroValue221
 t146:=Tryz.underlying329
 a146:=Tryz.isAgg329
 z146:=Tryz.sizeOf329
 v146:=Tryz.zeroValue329
 t148:=Tryz.underlying331
 a148:=Tryz.isAgg331
 z148:=Tryz.sizeOf331
 v148:=Tryz.zeroValue331 }
theorem k9a (x y:Nat) (b:x<18446744073709551616) (c:y<18446744073709551616) (w:World):Calls Tryz.prog 278 #[.int .u64 x,.int .u64 y] w λe w'=>e= .returned (.tuple #[.int .u64 ((x*y / 18446744073709551616:Nat):Int),.int .u64 ((x*y % 18446744073709551616:Nat):Int)])/\w'=w:=by
 have a:=Any.bits_Mul Zpa x y b c w
 exact a
abbrev u64 (n:Int):AV:= .v (.int .u64 n)
theorem JOa (x y:Nat) (f:x<18446744073709551616) (k:y<18446744073709551616):qX Tryz.prog 278 [u64 x,u64 y] (.tup [u64 ((x*y / 18446744073709551616:Nat):Int),u64 ((x*y % 18446744073709551616:Nat):Int)]):=λh=>by
 refine ⟨by kernel_rfl,⟨_,_,⟨rfl,rfl⟩,.refl⟩,?_⟩
 intro φ n B w g vs l hB a
 obtain ⟨v1,m,rfl,d,j,i,rfl,b,c⟩:=a
 have c:i=[]:=c
 subst c
 have d:v1= .int .u64 x:=d
 have b:j= .int .u64 y:=b
 subst d;subst b
 refine (k9a x y f k w).mono ?_
 rintro e w' ⟨rfl,rfl⟩
 exact ⟨_,_,_,_,rfl,⟨rfl,rfl⟩,.refl,Good.refl l hB,_,rfl,_,_,rfl,rfl,_,_,rfl,rfl,rfl⟩
end Go.Proofs.YtfmldcilgbbimaaGreat.Ax
