/-
  Joined: In3. Nothing is proved here of a statement.
-/
import Derived.Test.YtpdghiplnlhnfaaMQ
namespace Go.Proofs.Ytpdghiplnlhnfaa.Ax
set_option linter.unusedSimpArgs false
set_option linter.unusedVariables false
open Go Go.RowKit Go.ChangeShapes Go.WideShapes
theorem len_two {α : Type} : ∀ {l : List α}, l.length = 2 → ∃ a b, l = [a, b]
  | [a, b], _ => ⟨a, b, rfl⟩
def InRat (v : Value) : Prop := ∃ p : Rat2, v = .agg #[.int .i64 p.1, .int .i64 p.2] ∧ FitR p
section
variable {H : Type} {enc : TypeId × Value → H} {w : World} {base : Nat} {held : Bool}
set_option maxRecDepth 100000 in
theorem ratV_in {r : Reach} {b0 : Nat} {v : Value} {d : DataW H} {p : List MemPlace} (hv : Value.okWide Try.prog w r b0 24 v) (h : DataW.Trod enc Try.prog w base (fun _ => true) held 24 v d p) : InRat v := by
  simp only [Value.okWide, Try.underlying24] at hv
  obtain ⟨cs, rfl, _, _⟩ := hv
  obtain ⟨fuel, hf0⟩ := h
  have hf0 : DataW.trod enc Try.prog w base (fun _ => true) held fuel 24 cs.toList = some (d, p) := by simpa [Value.cells] using hf0
  obtain ⟨xs, n, _, _, hl, hlen, hf⟩ := DataW.trod_struct Try.underlying24 hf0
  have e24 : Try.prog.cellsOf 24 = 2 := by kernel_rfl
  rw [e24] at hl
  obtain ⟨L⟩ := cs
  replace hl : L.length = 2 := hl
  replace hf0 : DataW.trod enc Try.prog w base (fun _ => true) held fuel 24 L = some (d, p) := hf0
  obtain ⟨v0, v1, e⟩ : ∃ v0 v1, L = [v0, v1] := len_two hl
  rw [e] at hf0 ⊢
  obtain ⟨z0, z1, rfl, rfl, g0, g1⟩ := rat_in hf0 rfl
  exact ⟨(z0, z1), rfl, g0, g1⟩
end
theorem InRat.ar {w : World} {p : Rat2} : AR (c0 w) (rat p) (.agg #[.int .i64 p.1, .int .i64 p.2]) := ⟨_, rfl, _, _, rfl, rfl, _, _, rfl, rfl, rfl⟩
end Go.Proofs.Ytpdghiplnlhnfaa.Ax
