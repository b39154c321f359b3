/-
  What the calls on numbers as bytes return, told alike in both ends. (The same lines stand in PackTells: never import both.)
-/
import Derived.Test.YtjcngipaeoegcaaAwake5
namespace Go.Proofs.Ytjcngipaeoegcaa
open Go.RowKit

/-- What came in as a slice of integers, as a list. -/
theorem int64s_of_ints {w : World} {a : Option Addr} {len cap : Nat} {zs : List Int} (h : (a = none ∧ len = 0 ∧ cap = 0 ∧ zs = []) ∨
    ∃ x, a = some x ∧ len ≤ cap ∧ cap ≤ maxLen ∧ zs.length = cap ∧ (∀ i, i < zs.length → w.cell? (x.add i) = some (.int .i64 (zs.getD i 0))) ∧ ∀ n ∈ zs, (Lit.int .i64 n).wf = true) :
    ∃ ns : List Int, ns.length = len ∧ len ≤ cap ∧ Row w a (ns.map I64) ∧ ∀ n ∈ ns, n ≤ 9223372036854775807 := by
  rcases h with ⟨rfl, rfl, rfl, rfl⟩ | ⟨x, rfl, hl, hm, hz, hcell, hwz⟩
  · exact ⟨[], rfl, Nat.le_refl _, Row.nil _ _, by simp⟩
  · refine ⟨zs.take len, by simp; omega, hl, fun _ => ⟨x, rfl, fun j u hu => ?_⟩, fun n hn => (int_of_i64 (hwz n (List.mem_of_mem_take hn))).2⟩
    have hj : j < len := by
      rcases Nat.lt_or_ge j len with h1 | h1
      · exact h1
      · rw [List.getElem?_eq_none (by simp; omega)] at hu; cases hu
    have hjz : j < zs.length := by omega
    rw [hcell j hjz, ← hu]
    simp only [List.getElem?_map, List.getElem?_take, hj, if_true, List.getElem?_eq_getElem hjz, Option.map_some, I64]
    rw [List.getD_eq_getElem?_getD, List.getElem?_eq_getElem hjz, Option.getD_some]

def codeOf {α : Type} (r : Option α) : Int := match r with | some _ => 0 | none => 50
def putBytes (r : Option (List UInt8)) : List UInt8 := match r with | some l => l | none => []
def takeNum (r : Option (Nat × List UInt8)) : Nat := match r with | some (n, _) => n | none => 0
def takeRest (r : Option (Nat × List UInt8)) : List UInt8 := match r with | some (_, l) => l | none => []
def textHead (r : Option (List UInt8 × List UInt8)) : List UInt8 := match r with | some (t, _) => t | none => []
def textRest (r : Option (List UInt8 × List UInt8)) : List UInt8 := match r with | some (_, l) => l | none => []
theorem RetPut.all {w w' : World} {r : Option (List UInt8)} {e : Ending} (h : RetPut w r e w') : ∃ A c, e = .returned (.tuple #[.slice A (putBytes r).length c, .int .i64 (codeOf r)]) ∧ Row w' A ((putBytes r).map B8) ∧ Ext w w' ∧ (putBytes r).length ≤ c := by
  obtain ⟨hb, h⟩ := h
  cases r with
  | none => exact ⟨none, 0, h, Row.nil _ _, hb, Nat.le_refl _⟩
  | some l =>
    obtain ⟨v, he, hown⟩ := h
    obtain ⟨A, c, hv, hc⟩ := hown.shape
    subst hv
    exact ⟨A, c, he, hown.row, hb, hc⟩
theorem RetTake.all {w w' : World} {r : Option (Nat × List UInt8)} {e : Ending} (h : RetTake w r e w') : ∃ A c, e = .returned (.tuple #[.int .i64 (takeNum r : Int), .slice A (takeRest r).length c, .int .i64 (codeOf r)]) ∧ Row w' A ((takeRest r).map B8) ∧ Ext w w' ∧ (takeRest r).length ≤ c := by
  obtain ⟨hb, h⟩ := h
  cases r with
  | none => exact ⟨none, 0, h, Row.nil _ _, hb, Nat.le_refl _⟩
  | some p =>
    obtain ⟨v, he, A, c, hv, hc, hr⟩ := h
    subst hv
    exact ⟨A, c, he, hr, hb, hc⟩
theorem RetText.all {w w' : World} {r : Option (List UInt8 × List UInt8)} {e : Ending} (h : RetText w r e w') : ∃ A c A2 c2, e = .returned (.tuple #[.slice A (textHead r).length c, .slice A2 (textRest r).length c2, .int .i64 (codeOf r)]) ∧ Row w' A ((textHead r).map B8) ∧ Row w' A2 ((textRest r).map B8) ∧ Ext w w' ∧ (textHead r).length ≤ c ∧ (textRest r).length ≤ c2 := by
  obtain ⟨hb, h⟩ := h
  cases r with
  | none => exact ⟨none, 0, none, 0, h, Row.nil _ _, Row.nil _ _, hb, Nat.le_refl _, Nat.le_refl _⟩
  | some p =>
    obtain ⟨v1, v2, he, ⟨A, c, hv1, hc, hr⟩, ⟨A2, c2, hv2, hc2, hr2⟩⟩ := h
    subst hv1
    subst hv2
    exact ⟨A, c, A2, c2, he, hr, hr2, hb, hc, hc2⟩

end Go.Proofs.Ytjcngipaeoegcaa
