/-
  Joined: In4. Nothing is proved here of a statement.
-/
import Derived.Test.YtpdghiplnlhnfaaNI
namespace Go.Proofs.Ytpdghiplnlhnfaa.Ax
set_option linter.unusedSimpArgs false
set_option linter.unusedVariables false
open Go Go.RowKit Go.ChangeShapes Go.WideShapes
def evValue (e : Ev) : Value := .agg #[.int .i64 e.id, .int .i64 e.worker, .int .i64 e.at_, .int .i64 e.kind, .int .i64 e.from_, .int .i64 e.to_, .int .i64 e.element, .int .i64 e.units, .int .i64 e.class_, .int .i64 e.gear, .int .i64 e.code]
def InEv (v : Value) : Prop := ∃ e : Ev, v = evValue e
theorem ints_in : ∀ {l : List Value}, (∀ v ∈ l, ∃ z, v = .int .i64 z) → ∃ zs : List Int, l = zs.map (Value.int .i64) ∧ zs.length = l.length
  | [], _ => ⟨[], rfl, rfl⟩
  | v :: l, h => by
    obtain ⟨z, rfl⟩ := h v (by simp)
    obtain ⟨zs, e, hl⟩ := ints_in (l := l) fun v hv => h v (by simp [hv])
    exact ⟨z :: zs, by rw [e]; rfl, by simp [hl]⟩
theorem evV_row : ∀ {zs : List Int}, zs.length = 11 → Value.agg ⟨zs.map (Value.int .i64)⟩ = evValue (evOfR zs)
  | [_, _, _, _, _, _, _, _, _, _, _], _ => rfl
section
variable {H : Type} {enc : TypeId × Value → H} {w : World} {base : Nat} {held : Bool}
set_option maxRecDepth 100000 in
theorem ev_in {r : Reach} {b0 : Nat} {v : Value} {d : DataW H} {p : List MemPlace} (hv : Value.okWide Try.prog w r b0 35 v) (h : DataW.Trod enc Try.prog w base (fun _ => true) held 35 v d p) : InEv v := by
  simp only [Value.okWide, Try.underlying35] at hv
  obtain ⟨cs, rfl, _, _⟩ := hv
  obtain ⟨fuel, hf0⟩ := h
  have hf0 : DataW.trod enc Try.prog w base (fun _ => true) held fuel 35 cs.toList = some (d, p) := by simpa [Value.cells] using hf0
  obtain ⟨xs, n, _, _, hl, hlen, hf⟩ := DataW.trod_struct Try.underlying35 hf0
  have e35 : Try.prog.cellsOf 35 = 11 := by kernel_rfl
  rw [e35] at hl
  have hfl := trod_flat (n := 2) (by kernel_rfl) hf0
  obtain ⟨L⟩ := cs
  obtain ⟨zs, e, hz⟩ := ints_in (l := L) fun v hv => by
    obtain ⟨z, h0, _⟩ := hfl v hv
    exact ⟨z, h0⟩
  replace hl : L.length = 11 := hl
  refine ⟨evOfR zs, ?_⟩
  rw [← evV_row (by omega), e]
end
theorem InEv.ar {w : World} {e : Ev} : AR (c0 w) (evV e) (evValue e) := ⟨_, rfl, _, _, rfl, rfl, _, _, rfl, rfl, _, _, rfl, rfl, _, _, rfl, rfl, _, _, rfl, rfl, _, _, rfl, rfl, _, _, rfl, rfl, _, _, rfl, rfl, _, _, rfl, rfl, _, _, rfl, rfl, _, _, rfl, rfl, rfl⟩
end Go.Proofs.Ytpdghiplnlhnfaa.Ax
