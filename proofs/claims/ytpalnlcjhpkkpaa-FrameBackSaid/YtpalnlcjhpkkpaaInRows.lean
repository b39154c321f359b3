/-
  What came in as a slice of slices of bytes, as a list of lists. No program in sight.
-/
import Derived.Test.YtpalnlcjhpkkpaaLists
import Derived.Deep.Matrix
namespace Go.Proofs.Ytpalnlcjhpkkpaa
open Go.RowKit

def InLs (w : World) (A : Option Addr) (ls : List (List UInt8)) : Prop :=
  ∃ vs : List Value, vs.length = ls.length ∧ Row w A vs ∧ ∀ (j : Nat) u x, vs[j]? = some u → ls[j]? = some x → Bs w u x ∧ ∀ g, x ≠ [] → u.ownBlock = some g → g < w.heap.size
theorem InLs.ls {w : World} {A : Option Addr} {ls : List (List UInt8)} (h : InLs w A ls) : Ls w A ls := by
  obtain ⟨vs, hl, hr, hb⟩ := h
  exact ⟨vs, hl, hr, fun j u x hu hx => (hb j u x hu hx).1⟩

theorem rows_in {w : World} {base : Nat} {a : Addr} {len cap : Nat} {A : Nat → Option Addr} {L C : Nat → Nat} {Z : Nat → List Int} (hl : len ≤ cap)
    (h : ∀ r, r < cap → w.cell? (a.add r) = some (.slice (A r) (L r) (C r)) ∧ L r ≤ C r ∧ C r ≤ maxLen ∧ (Z r).length = C r ∧ (∀ n ∈ Z r, (Lit.int .u8 n).wf = true) ∧ (A r = none → C r = 0) ∧
      ∀ a', A r = some a' → base ≤ a'.block ∧ ∀ c, c < C r → w.cell? (a'.add c) = some (.int .u8 ((Z r).getD c 0))) :
    ∃ ls : List (List UInt8), ls.length = len ∧ InLs w (some a) ls := by
  have each : ∀ r, r < len → ∃ l : List UInt8, Bs w (.slice (A r) (L r) (C r)) l ∧ ∀ g, l ≠ [] → (Value.slice (A r) (L r) (C r)).ownBlock = some g → g < w.heap.size := by
    intro r hr
    obtain ⟨h1, h2, h3, h4, h5, h6, h7⟩ := h r (by omega)
    obtain ⟨l, hll, hlc, _, hrow⟩ := bytes_of_ints (w := w) (a := A r) (len := L r) (cap := C r) (zs := Z r) (by
      cases hA : A r with
      | none =>
        have h0 := h6 hA
        exact .inl ⟨rfl, by omega, h0, List.eq_nil_of_length_eq_zero (by omega)⟩
      | some a' =>
        obtain ⟨_, h8⟩ := h7 a' hA
        exact .inr ⟨a', rfl, h2, h3, h4, fun i hi => h8 i (by omega), h5⟩)
    refine ⟨l, ⟨_, _, by rw [hll], by omega, hrow⟩, fun g hne hg => ?_⟩
    obtain ⟨ad, e, hcell⟩ := hrow (by simpa using hne)
    rw [e] at hg
    injection hg with hg
    subst hg
    rcases l with _ | ⟨b, l⟩
    · exact absurd rfl hne
    · have := hcell 0 (B8 b) (by simp)
      have h9 := block_lt_of_cell this
      rwa [add_block] at h9
  obtain ⟨f, hf⟩ := Go.Deep.choose_lt each
  refine ⟨(List.range len).map f, by simp, (List.range len).map (fun r => .slice (A r) (L r) (C r)), by simp, fun _ => ⟨a, rfl, fun j u hu => ?_⟩, fun j u x hu hx => ?_⟩
  · rw [List.getElem?_map] at hu
    rcases Nat.lt_or_ge j len with hj | hj
    · rw [List.getElem?_range hj] at hu
      simp at hu
      subst hu
      exact (h j (by omega)).1
    · rw [List.getElem?_eq_none (by simpa using hj)] at hu
      cases hu
  · rw [List.getElem?_map] at hu hx
    rcases Nat.lt_or_ge j len with hj | hj
    · rw [List.getElem?_range hj] at hu hx
      simp at hu hx
      subst hu
      subst hx
      exact hf j hj
    · rw [List.getElem?_eq_none (by simpa using hj)] at hu
      cases hu

end Go.Proofs.Ytpalnlcjhpkkpaa
