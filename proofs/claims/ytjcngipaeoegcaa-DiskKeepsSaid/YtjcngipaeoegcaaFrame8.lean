/-
  Frames, plain: all that stand one behind the other.
-/
import Derived.Test.YtjcngipaeoegcaaFrame6
namespace Go.Proofs.Ytjcngipaeoegcaa

namespace Frame
def frame (p : List UInt8) : List UInt8 := sealed (Pack.text [] p)

theorem take_own (b p r : List UInt8) (h : take b = some (p, r)) : b = frame p ++ r ∧ p.length ≤ 100000 := by
  rw [← refTake_eq] at h
  unfold refTake at h
  cases ht : Pack.takeText b with
  | none => rw [ht] at h; cases h
  | some pr =>
    obtain ⟨q, s⟩ := pr
    rw [ht] at h
    simp only at h
    by_cases h1 : 100000 < q.length
    · rw [if_pos h1] at h; cases h
    · rw [if_neg h1] at h
      by_cases h2 : b.length < (sealed (Pack.text [] q)).length
      · rw [if_pos h2] at h; cases h
      · rw [if_neg h2] at h
        by_cases h3 : (sealed (Pack.text [] q) == b.take (sealed (Pack.text [] q)).length) = true
        · rw [if_pos h3] at h
          injection h with h
          injection h with h4 h5
          subst h4
          have h6 := eq_of_beq h3
          refine ⟨?_, by omega⟩
          rw [← h5]
          unfold frame
          conv => lhs; rw [← List.take_append_drop (sealed (Pack.text [] q)).length b]
          rw [← h6]
        · rw [if_neg h3] at h; cases h

theorem frame_length (p : List UInt8) : (frame p).length = Pack.need p.length + 1 + p.length + 4 := by
  unfold frame
  rw [sealed_length]
  simp [Pack.text, Pack.one_length]

theorem take_frame (p r : List UInt8) (h : p.length ≤ 100000) : take (frame p ++ r) = some (p, r) := take_put p r h

theorem take_lt {b p r : List UInt8} (h : take b = some (p, r)) : r.length < b.length := by
  have := congrArg List.length (take_own _ _ _ h).1
  rw [List.length_append, frame_length] at this
  omega

def allN : Nat → List UInt8 → List (List UInt8) × List UInt8
  | 0, b => ([], b)
  | n + 1, b => match take b with
    | none => ([], b)
    | some (p, r) => (p :: (allN n r).1, (allN n r).2)

def all (b : List UInt8) : List (List UInt8) × List UInt8 := allN (b.length + 1) b

theorem allN_same : ∀ n m b, b.length < n → b.length < m → allN n b = allN m b := by
  intro n
  induction n with
  | zero => intro m b h; omega
  | succ n ih =>
    intro m b h1 h2
    cases m with
    | zero => omega
    | succ m =>
      unfold allN
      cases ht : take b with
      | none => rfl
      | some pr =>
        obtain ⟨p, r⟩ := pr
        have := take_lt ht
        simp only
        rw [ih m r (by omega) (by omega)]

theorem all_none {b : List UInt8} (h : take b = none) : all b = ([], b) := by
  unfold all allN
  rw [h]
theorem all_some {b p r : List UInt8} (h : take b = some (p, r)) : all b = (p :: (all r).1, (all r).2) := by
  have hl := take_lt h
  unfold all
  conv => lhs; unfold allN
  rw [h]
  simp only
  rw [allN_same b.length (r.length + 1) r (by omega) (by omega)]

theorem all_frame (p r : List UInt8) (h : p.length ≤ 100000) : all (frame p ++ r) = (p :: (all r).1, (all r).2) := all_some (take_frame p r h)

/-- Frames one behind the other. -/
def frames (l : List (List UInt8)) : List UInt8 := (l.map frame).flatten
theorem frames_snoc (l : List (List UInt8)) (p : List UInt8) : frames (l ++ [p]) = frames l ++ frame p := by simp [frames]
theorem all_frames (l : List (List UInt8)) (r : List UInt8) (h : ∀ p ∈ l, p.length ≤ 100000) : all (frames l ++ r) = (l ++ (all r).1, (all r).2) := by
  induction l with
  | nil => simp [frames]
  | cons p l ih =>
    rw [show frames (p :: l) = frame p ++ frames l by simp [frames], List.append_assoc, all_frame _ _ (h p (by simp)), ih (fun q hq => h q (by simp [hq]))]
    simp

/-- A frame that is cut is none. -/
theorem take_cut (p : List UInt8) (hp : p.length ≤ 100000) (k : Nat) (hk : k < (frame p).length) : take ((frame p).take k) = none := by
  cases ht : take ((frame p).take k) with
  | none => rfl
  | some qr =>
    obtain ⟨q, r⟩ := qr
    obtain ⟨h1, h2⟩ := take_own _ _ _ ht
    have h3 : frame p = frame q ++ (r ++ (frame p).drop k) := by
      conv => lhs; rw [← List.take_append_drop k (frame p)]
      rw [h1, List.append_assoc]
    have h4 := take_frame p [] hp
    rw [List.append_nil, h3, take_frame q _ h2] at h4
    injection h4 with h4
    injection h4 with _ h5
    have h6 := congrArg List.length h5
    rw [List.length_append, List.length_drop] at h6
    simp at h6
    omega

/-- The rest of all is what stands behind. -/
theorem all_rest (b : List UInt8) : (all b).2.length ≤ b.length := by
  have : ∀ n b, (allN n b).2.length ≤ b.length := by
    intro n
    induction n with
    | zero => intro b; exact Nat.le_refl _
    | succ n ih =>
      intro b
      unfold allN
      cases ht : take b with
      | none => exact Nat.le_refl _
      | some pr =>
        obtain ⟨p, r⟩ := pr
        have := take_lt ht
        have := ih r
        simp only
        omega
  exact this _ _
theorem all_last (b : List UInt8) : take (all b).2 = none := by
  have : ∀ n b, b.length < n → take (allN n b).2 = none := by
    intro n
    induction n with
    | zero => intro b h; omega
    | succ n ih =>
      intro b h
      unfold allN
      cases ht : take b with
      | none => exact ht
      | some pr =>
        obtain ⟨p, r⟩ := pr
        have := take_lt ht
        exact ih r (by omega)
  exact this _ _ (by omega)
theorem all_frames_own (b : List UInt8) : b = frames (all b).1 ++ (all b).2 := by
  have : ∀ n b, b = frames (allN n b).1 ++ (allN n b).2 := by
    intro n
    induction n with
    | zero => intro b; simp [allN, frames]
    | succ n ih =>
      intro b
      unfold allN
      cases ht : take b with
      | none => simp [frames]
      | some pr =>
        obtain ⟨p, r⟩ := pr
        have h1 := (take_own _ _ _ ht).1
        have h2 := ih r
        simp only
        rw [show frames (p :: (allN n r).1) = frame p ++ frames (allN n r).1 by simp [frames], List.append_assoc, ← h2]
        exact h1
  exact this _ _
/-- How many there are. -/
theorem all_few (b : List UInt8) : (all b).1.length ≤ b.length ∧ ∀ p ∈ (all b).1, p.length ≤ 100000 := by
  have : ∀ n b, (allN n b).1.length ≤ b.length ∧ ∀ p ∈ (allN n b).1, p.length ≤ 100000 := by
    intro n
    induction n with
    | zero => intro b; simp [allN]
    | succ n ih =>
      intro b
      unfold allN
      cases ht : take b with
      | none => simp
      | some pr =>
        obtain ⟨p, r⟩ := pr
        have := take_lt ht
        have h2 := ih r
        have h3 := (take_own _ _ _ ht).2
        refine ⟨by simp only [List.length_cons]; omega, fun q hq => ?_⟩
        rcases List.mem_cons.1 hq with rfl | hq
        · exact h3
        · exact h2.2 q hq
  exact this _ _
end Frame

end Go.Proofs.Ytjcngipaeoegcaa
