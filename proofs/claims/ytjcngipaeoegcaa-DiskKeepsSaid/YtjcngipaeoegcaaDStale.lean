/-
  Disks: what stands behind the good bytes. No program in sight.
-/
import Derived.Test.YtjcngipaeoegcaaM1
namespace Go.Proofs.Ytjcngipaeoegcaa
namespace Disk

theorem file_empty : file [] = none := file_none take_nil
/-- A file whose bytes are all good. -/
def Whole (a : List UInt8) : Prop := ∃ f, file a = some f ∧ f.good = a
theorem Whole.new : Whole new := by
  have h := file_new 1 [] (by omega) (by rw [head_length]; have h1 := Pack.need_le8 1 (by omega); have h2 := Pack.need_le8 0 (by omega); simp [texts]; omega)
  exact ⟨_, h, rfl⟩
theorem Whole.more {a : List UInt8} (h : Whole a) (p : List UInt8) (hp : p.length ≤ 100000) : Whole (a ++ Frame.frame p) := by
  obtain ⟨f, h1, h2⟩ := h
  have := file_more h1 p hp
  rw [h2] at this
  exact ⟨_, this, rfl⟩
theorem append_stale {a : List UInt8} (h : Whole a) (r p : List UInt8) (hr : Frame.take r = none) (hp : p.length ≤ 100000) : append (a ++ r) [] p 0 = ((a ++ Frame.frame p, []), 0) := by
  obtain ⟨f, h1, h2⟩ := h
  have h3 := file_cut h1 hr
  rw [h2] at h3
  have h4 : which (a ++ r) [] = some (false, f) := by unfold which; rw [h3, file_empty]
  unfold append
  rw [h4]
  simp only
  rw [if_neg (by omega), h2]
  rfl
theorem append_whole {a : List UInt8} (h : Whole a) (p : List UInt8) (hp : p.length ≤ 100000) : append a [] p 0 = ((a ++ Frame.frame p, []), 0) := by
  have := append_stale h [] p take_nil hp
  rwa [List.append_nil] at this
theorem take_of_all {r : List UInt8} (h : (Frame.all r).1 = []) : Frame.take r = none := by
  cases ht : Frame.take r with
  | none => rfl
  | some q =>
    obtain ⟨p, s⟩ := q
    rw [Frame.all_some ht] at h
    cases h
theorem new_le : new.length ≤ 100100 := by
  refine frame_len _ ?_
  rw [head_length]
  have h1 := Pack.need_le8 1 (by omega)
  have h2 := Pack.need_le8 0 (by omega)
  simp [texts]
  omega
end Disk
end Go.Proofs.Ytjcngipaeoegcaa
