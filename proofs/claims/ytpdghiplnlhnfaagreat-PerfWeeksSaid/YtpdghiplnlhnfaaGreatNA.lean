/-
  Joined: Ax19, MulL. Nothing is proved here of a statement.
-/
import Derived.Test.YtpdghiplnlhnfaaGreatMX
import Derived.Scope
import Derived.Test.YtpdghiplnlhnfaaGreatMJ
import Derived.Shelf.Bits.Mul64
namespace Go.Proofs.YtpdghiplnlhnfaaGreat.Ax
set_option linter.unusedSimpArgs false
set_option linter.unusedVariables false
open Go Go.RowKit
section
variable {P : Program} {N B : Nat} {T : Env} {h : List Ob} {Q : PostA}
def noGotoA (Q : PostA) : PostA := fun e T h => match e with
  | .goto _ => False
  | e => Q e T h
theorem noGotoA_n : noGotoA Q .normal T h = Q .normal T h := id rfl
theorem noGotoA_r : noGotoA Q .ret T h = Q .ret T h := id rfl
theorem noGotoA_x {i : Nat} : noGotoA Q (.exit i) T h = Q (.exit i) T h := id rfl
theorem wp_scope_a {c : Code} (hok : okC N c = true) (k : wpC P N B c (noGotoA Q) T h) : @StopA P N B ⟨(.scope c, Q)⟩ T h := fun φ hu w g a r => by
  refine wp_scope_straight (wp_mono (wpC_sound c hok k φ hu w g a r) fun e a' w' ⟨T', h', e1, e2⟩ => ?_)
  cases e <;> first
    | exact ⟨T', h', e1, e2⟩
    | exact e1.elim
theorem guardK_un {want : Bool} {p q : Prop} : @guardK (.v undef) want ⟨p⟩ ⟨q⟩ = q := id rfl
theorem valK_un {want : Bool} {x : Option AV} : valK (.v undef) want x = some (.v undef) := id rfl
end
attribute [go_sem] noGotoA_n noGotoA_r noGotoA_x guardK_un valK_un
end Go.Proofs.YtpdghiplnlhnfaaGreat.Ax

namespace Go.Proofs.YtpdghiplnlhnfaaGreat.Ax
set_option linter.unusedSimpArgs false
set_option linter.unusedVariables false
open Go Go.Proofs Go.Shelf
def mulLay_ren : Go.Shelf.Ren := ⟨fun | 212 => 165 | 263 => 175 | 264 => 176 | n => n, fun | 46 => 162 | 51 => 183 | 146 => 194 | 53 => 185 | 148 => 196 | n => n, fun | n => n⟩
theorem mulLay : Go.Proofs.Lays.n212 Tryz.prog mulLay_ren := {
  mixed := by kernel_rfl
  f212 := Tryz.func165.trans (congrArg some (by kernel_rfl))
  f263 := Tryz.func175.trans (congrArg some (by kernel_rfl))
  f264 := Tryz.func176.trans (congrArg some (by kernel_rfl))
  t46 := Tryz.underlying162
  a46 := Tryz.isAgg162
  z46 := Tryz.sizeOf162
  v46 := Tryz.zeroValue162
  t51 := Tryz.underlying183
  a51 := Tryz.isAgg183
  z51 := Tryz.sizeOf183
  v51 := Tryz.zeroValue183
  t53 := Tryz.underlying185
  a53 := Tryz.isAgg185
  z53 := Tryz.sizeOf185
  v53 := Tryz.zeroValue185
  t146 := Tryz.underlying194
  a146 := Tryz.isAgg194
  z146 := Tryz.sizeOf194
  v146 := Tryz.zeroValue194
  t148 := Tryz.underlying196
  a148 := Tryz.isAgg196
  z148 := Tryz.sizeOf196
  v148 := Tryz.zeroValue196 }
theorem calls118 (x y : Nat) (hx : x < 18446744073709551616) (hy : y < 18446744073709551616) (w : World) : Calls Tryz.prog 165 #[.int .u64 x, .int .u64 y] w fun e w' => e = .returned (.tuple #[.int .u64 ((x * y / 18446744073709551616 : Nat) : Int), .int .u64 ((x * y % 18446744073709551616 : Nat) : Int)]) ∧ w' = w := by
  have hcon := Any.bits_Mul mulLay x y hx hy w
  exact hcon
abbrev u64 (n : Int) : AV := .v (.int .u64 n)
theorem c118 (x y : Nat) (hx : x < 18446744073709551616) (hy : y < 18446744073709551616) : Pure Tryz.prog 165 [u64 x, u64 y] (.tup [u64 ((x * y / 18446744073709551616 : Nat) : Int), u64 ((x * y % 18446744073709551616 : Nat) : Int)]) := fun h => by
  refine ⟨by kernel_rfl, ⟨_, _, ⟨rfl, rfl⟩, .refl⟩, ?_⟩
  intro φ hu B w g vs hh hB hargs
  obtain ⟨v1, r1, rfl, h1, v2, r2, rfl, h2, hr⟩ := hargs
  have hr : r2 = [] := hr
  subst hr
  have h1 : v1 = .int .u64 x := h1
  have h2 : v2 = .int .u64 y := h2
  subst h1; subst h2
  refine (calls118 x y hx hy w).mono ?_
  rintro e w' ⟨rfl, rfl⟩
  exact ⟨_, _, _, _, rfl, ⟨rfl, rfl⟩, .refl, Good.refl hh hB, _, rfl, _, _, rfl, rfl, _, _, rfl, rfl, rfl⟩
end Go.Proofs.YtpdghiplnlhnfaaGreat.Ax
