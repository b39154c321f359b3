/-
  Frames, plain: the document's way to take a frame is Frame.take.
-/
import Derived.Test.YtjcngipaeoegcaaFrame4
import Derived.Test.YtjcngipaeoegcaaFrame5
namespace Go.Proofs.Ytjcngipaeoegcaa
open Go.RowKit

namespace Frame
/-- The document's: the payload's own frame stands there. -/
def refTake (b : List UInt8) : Option (List UInt8 × List UInt8) :=
  match Pack.takeText b with
  | none => none
  | some (p, _) => if 100000 < p.length then none
    else if b.length < (sealed (Pack.text [] p)).length then none
    else if sealed (Pack.text [] p) == b.take (sealed (Pack.text [] p)).length then some (p, b.drop (sealed (Pack.text [] p)).length) else none

theorem refTake_eq (b : List UInt8) : refTake b = take b := by
  unfold refTake take
  cases ht : Pack.takeText b with
  | none => rfl
  | some pr =>
    obtain ⟨p, r⟩ := pr
    simp only
    have hb : b = Pack.text [] p ++ r := by
      rw [(Pack.takeText_own _ _ _ ht).1]
      unfold Pack.text
      simp
    obtain ⟨T, hT⟩ : ∃ T, T = Pack.text [] p := ⟨_, rfl⟩
    rw [← hT] at hb ⊢
    have hl := sealed_length T
    have hbl : b.length = T.length + r.length := by rw [hb, List.length_append]
    have hm : b.length - r.length = T.length := by omega
    rw [hm, hl]
    by_cases h1 : 100000 < p.length
    · rw [if_pos h1, if_pos (.inl h1)]
    · by_cases h2 : r.length < 4
      · rw [if_neg h1, if_pos (show b.length < T.length + 4 by omega), if_pos (.inr h2)]
      · rw [if_neg h1, if_neg (show ¬ b.length < T.length + 4 by omega), if_neg (show ¬ (100000 < p.length ∨ r.length < 4) by omega)]
        have h3 : b.take T.length = T := by rw [hb, List.take_left]
        have h4 : b.drop (T.length + 4) = r.drop 4 := by rw [hb, List.drop_append]; simp
        rw [h3, h4]
/-- A frame that was put is taken again. -/
theorem take_put (p r : List UInt8) (h : p.length ≤ 100000) : take (sealed (Pack.text [] p) ++ r) = some (p, r) := by
  have h1 : Pack.takeText (sealed (Pack.text [] p) ++ r) = some (p, Crc.bytes (Crc.sum (Pack.text [] p)) ++ r) := by
    unfold sealed
    rw [show Pack.text [] p = Pack.one p.length ++ p by simp [Pack.text]]
    rw [List.append_assoc, List.append_assoc]
    exact Pack.takeText_text _ _ (by omega)
  have h4 : (Crc.bytes (Crc.sum (Pack.text [] p))).length = 4 := Crc.le_length 4 _
  rw [← refTake_eq]
  unfold refTake
  rw [h1]
  simp only
  rw [if_neg (show ¬ 100000 < p.length by omega), if_neg (show ¬ (sealed (Pack.text [] p) ++ r).length < (sealed (Pack.text [] p)).length by rw [List.length_append]; omega), List.take_left, List.drop_left, if_pos (by simp)]
end Frame

end Go.Proofs.Ytjcngipaeoegcaa
