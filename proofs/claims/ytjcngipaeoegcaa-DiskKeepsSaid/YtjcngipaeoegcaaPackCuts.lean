/-
  The walk of PackCuts.
-/
import Derived.Test.YtjcngipaeoegcaaAwake5
namespace Go.Proofs.Ytjcngipaeoegcaa
open Go.RowKit

namespace Pack
theorem takeText_own (b t r : List UInt8) (h : takeText b = some (t, r)) : b = one t.length ++ (t ++ r) ∧ t.length < 9223372036854775808 := by
  unfold takeText at h
  split at h
  · rename_i n s hs
    obtain ⟨h1, h2⟩ := take_own _ _ _ hs
    split at h
    · cases h
    · rename_i hl
      injection h with h
      injection h with ht hr
      have hn : t.length = n := by rw [← ht, List.length_take]; omega
      refine ⟨?_, by omega⟩
      rw [hn, h1, ← ht, ← hr, List.take_append_drop]
  · cases h
theorem takeText_text (t r : List UInt8) (h : t.length < 9223372036854775808) : takeText (one t.length ++ (t ++ r)) = some (t, r) := by
  unfold takeText
  rw [take_one _ _ h]
  simp only
  rw [if_neg (by rw [List.length_append]; omega)]
  simp
theorem take_cut (n k : Nat) (h : n < 9223372036854775808) (hk : k < (one n).length) : take ((one n).take k) = none := by
  cases ht : take ((one n).take k) with
  | none => rfl
  | some p =>
    obtain ⟨m, r⟩ := p
    obtain ⟨h1, h2⟩ := take_own _ _ _ ht
    have h3 := take_one n [] h
    rw [List.append_nil] at h3
    have h4 : one n = one m ++ (r ++ (one n).drop k) := by rw [← List.append_assoc, ← h1, List.take_append_drop]
    have h5 := take_one m (r ++ (one n).drop k) h2
    rw [← h4, h3] at h5
    injection h5 with h5
    injection h5 with _ h5
    have h6 := congrArg List.length h5
    rw [List.length_append, List.length_drop, List.length_nil] at h6
    omega
theorem takeText_cut (t : List UInt8) (k : Nat) (h : t.length < 9223372036854775808) (hk : k < (text [] t).length) : takeText ((text [] t).take k) = none := by
  cases ht : takeText ((text [] t).take k) with
  | none => rfl
  | some p =>
    obtain ⟨m, r⟩ := p
    obtain ⟨h1, h2⟩ := takeText_own _ _ _ ht
    have h3 := takeText_text t [] h
    have h0 : one t.length ++ (t ++ []) = text [] t := by simp [text]
    rw [h0] at h3
    have h4 : text [] t = one m.length ++ (m ++ (r ++ (text [] t).drop k)) := by
      conv => lhs; rw [← List.take_append_drop k (text [] t), h1]
      simp
    have h5 := takeText_text m (r ++ (text [] t).drop k) h2
    rw [← h4, h3] at h5
    injection h5 with h5
    injection h5 with _ h5
    have h6 := congrArg List.length h5
    rw [List.length_append, List.length_drop, List.length_nil] at h6
    omega
end Pack

end Go.Proofs.Ytjcngipaeoegcaa
