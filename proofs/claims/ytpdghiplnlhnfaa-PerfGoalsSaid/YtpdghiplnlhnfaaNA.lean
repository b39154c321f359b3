/-
  Joined: Ax19, MulL. Nothing is proved here of a statement.
-/
import Derived.Test.YtpdghiplnlhnfaaMX
import Derived.Scope
import Derived.Test.YtpdghiplnlhnfaaMJ
import Derived.Shelf.Bits.Mul64
namespace Go.Proofs.Ytpdghiplnlhnfaa.Ax
set_option linter.unusedSimpArgs false
set_option linter.unusedVariables false
open Go Go.RowKit
section
variable {P : Program} {N B : Nat} {T : Env} {h : List Ob} {Q : PostA}
def noGotoA (Q : PostA) : PostA := fun e T h => match e with
  | .goto _ => False
  | e => Q e T h
theorem noGotoA_n : noGotoA Q .normal T h = Q .normal T h := id rfl
theorem noGotoA_r : noGotoA Q .ret T h = Q .ret T h := id rfl
theorem noGotoA_x {i : Nat} : noGotoA Q (.exit i) T h = Q (.exit i) T h := id rfl
theorem wp_scope_a {c : Code} (hok : okC N c = true) (k : wpC P N B c (noGotoA Q) T h) : @StopA P N B ⟨(.scope c, Q)⟩ T h := fun φ hu w g a r => by
  refine wp_scope_straight (wp_mono (wpC_sound c hok k φ hu w g a r) fun e a' w' ⟨T', h', e1, e2⟩ => ?_)
  cases e <;> first
    | exact ⟨T', h', e1, e2⟩
    | exact e1.elim
theorem guardK_un {want : Bool} {p q : Prop} : @guardK (.v undef) want ⟨p⟩ ⟨q⟩ = q := id rfl
theorem valK_un {want : Bool} {x : Option AV} : valK (.v undef) want x = some (.v undef) := id rfl
end
attribute [go_sem] noGotoA_n noGotoA_r noGotoA_x guardK_un valK_un
end Go.Proofs.Ytpdghiplnlhnfaa.Ax

namespace Go.Proofs.Ytpdghiplnlhnfaa.Ax
set_option linter.unusedSimpArgs false
set_option linter.unusedVariables false
open Go Go.Proofs Go.Shelf
def mulLay_ren : Go.Shelf.Ren := ⟨fun | 212 => 118 | 263 => 130 | 264 => 131 | n => n, fun | 46 => 150 | 51 => 166 | 146 => 169 | 53 => 168 | 148 => 171 | n => n, fun | n => n⟩
theorem mulLay : Go.Proofs.Lays.n212 Try.prog mulLay_ren := {
  mixed := by kernel_rfl
  f212 := Try.func118.trans (congrArg some (by kernel_rfl))
  f263 := Try.func130.trans (congrArg some (by kernel_rfl))
  f264 := Try.func131.trans (congrArg some (by kernel_rfl))
  t46 := Try.underlying150
  a46 := Try.isAgg150
  z46 := Try.sizeOf150
  v46 := Try.zeroValue150
  t51 := Try.underlying166
  a51 := Try.isAgg166
  z51 := Try.sizeOf166
  v51 := Try.zeroValue166
  t53 := Try.underlying168
  a53 := Try.isAgg168
  z53 := Try.sizeOf168
  v53 := Try.zeroValue168
  t146 := Try.underlying169
  a146 := Try.isAgg169
  z146 := Try.sizeOf169
  v146 := Try.zeroValue169
  t148 := Try.underlying171
  a148 := Try.isAgg171
  z148 := Try.sizeOf171
  v148 := Try.zeroValue171 }
theorem calls118 (x y : Nat) (hx : x < 18446744073709551616) (hy : y < 18446744073709551616) (w : World) : Calls Try.prog 118 #[.int .u64 x, .int .u64 y] w fun e w' => e = .returned (.tuple #[.int .u64 ((x * y / 18446744073709551616 : Nat) : Int), .int .u64 ((x * y % 18446744073709551616 : Nat) : Int)]) ∧ w' = w := by
  have hcon := Any.bits_Mul mulLay x y hx hy w
  exact hcon
abbrev u64 (n : Int) : AV := .v (.int .u64 n)
theorem c118 (x y : Nat) (hx : x < 18446744073709551616) (hy : y < 18446744073709551616) : Pure Try.prog 118 [u64 x, u64 y] (.tup [u64 ((x * y / 18446744073709551616 : Nat) : Int), u64 ((x * y % 18446744073709551616 : Nat) : Int)]) := fun h => by
  refine ⟨by kernel_rfl, ⟨_, _, ⟨rfl, rfl⟩, .refl⟩, ?_⟩
  intro φ hu B w g vs hh hB hargs
  obtain ⟨v1, r1, rfl, h1, v2, r2, rfl, h2, hr⟩ := hargs
  have hr : r2 = [] := hr
  subst hr
  have h1 : v1 = .int .u64 x := h1
  have h2 : v2 = .int .u64 y := h2
  subst h1; subst h2
  refine (calls118 x y hx hy w).mono ?_
  rintro e w' ⟨rfl, rfl⟩
  exact ⟨_, _, _, _, rfl, ⟨rfl, rfl⟩, .refl, Good.refl hh hB, _, rfl, _, _, rfl, rfl, _, _, rfl, rfl, rfl⟩
end Go.Proofs.Ytpdghiplnlhnfaa.Ax
