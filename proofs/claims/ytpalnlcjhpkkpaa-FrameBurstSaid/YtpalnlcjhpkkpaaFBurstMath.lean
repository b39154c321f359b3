/-
  Frames, plain: a burst behind the head is seen.
-/
import Derived.Test.YtpalnlcjhpkkpaaFrame8
namespace Go.Proofs.Ytpalnlcjhpkkpaa

namespace Frame
/-- What lies below the burst is as it was. -/
theorem xors_low (l : List UInt8) (f burst j : Nat) (hj : 8 * (j + 1) ≤ f) (hl : j < l.length) : (Crc.xors l (Crc.le l.length (2 ^ f * burst)))[j]? = l[j]? := by
  have hle : j < (Crc.le l.length (2 ^ f * burst)).length := by rw [Crc.le_length]; exact hl
  have h : 2 ^ f * burst / 256 ^ j = 256 * (2 ^ (f - 8 * (j + 1)) * burst) := by
    rw [show 2 ^ f * burst = 256 ^ j * (256 * (2 ^ (f - 8 * (j + 1)) * burst)) by
      rw [show (256 : Nat) = 2 ^ 8 from rfl, ← Nat.pow_mul, ← Nat.mul_assoc, ← Nat.mul_assoc, ← Nat.pow_add, ← Nat.pow_add]
      congr 2
      omega]
    exact Nat.mul_div_cancel_left _ (Nat.pow_pos (by decide))
  have h0 : UInt8.ofNat (256 * (2 ^ (f - 8 * (j + 1)) * burst)) = 0 := by
    apply UInt8.toNat_inj.1
    rw [Crc.u8_toNat]
    simp
  have h1 : (Crc.le l.length (2 ^ f * burst))[j]? = some 0 := by rw [List.getElem?_eq_getElem hle, Crc.le_get, h, h0]
  unfold Crc.xors
  rw [List.getElem?_zipWith, h1, List.getElem?_eq_getElem hl]
  simp

theorem take_burst (p : List UInt8) (hp : p.length ≤ 100000) (f burst : Nat) (hb : burst < 2 ^ 32) (hf1 : 8 * (Pack.need p.length + 1) ≤ f) (hf2 : f + 32 ≤ 8 * (frame p).length) (c : List UInt8) (hc : c = Crc.xors (frame p) (Crc.le (frame p).length (2 ^ f * burst))) :
    take c = if burst = 0 then some (p, []) else none := by
  by_cases h0 : burst = 0
  · rw [if_pos h0]
    subst h0
    rw [Nat.mul_zero, Crc.xors_zero] at hc
    rw [hc]
    have := take_frame p [] hp
    rwa [List.append_nil] at this
  · rw [if_neg h0]
    obtain ⟨T, hT⟩ : ∃ T, T = Pack.text [] p := ⟨_, rfl⟩
    have hF : frame p = T ++ Crc.bytes (Crc.sum T) := by rw [hT]; rfl
    have hTl : T.length = Pack.need p.length + 1 + p.length := by rw [hT]; simp [Pack.text, Pack.one_length]
    have hFl : (frame p).length = T.length + 4 := by rw [frame_length, hTl]
    have hcl : c.length = T.length + 4 := by rw [hc]; simp [Crc.xors, Crc.le_length, hFl]
    have hseen := Crc.burst_seen T f burst hb (by rw [hFl] at hf2; exact hf2) c (by rw [hc, hF]; congr 2; simp [Crc.bytes, Crc.le_length])
    -- the head stands
    have hone : (frame p).take (Pack.need p.length + 1) = Pack.one p.length := by
      rw [hF, hT, show Pack.text [] p = Pack.one p.length ++ p by simp [Pack.text], List.append_assoc, show Pack.need p.length + 1 = (Pack.one p.length).length from (Pack.one_length _).symm, List.take_left]
    have hhead : c.take (Pack.need p.length + 1) = Pack.one p.length := by
      rw [← hone]
      apply List.ext_getElem?
      intro j
      rw [List.getElem?_take, List.getElem?_take]
      split
      · rename_i hj
        rw [hc]
        exact xors_low _ _ _ _ (by omega) (by rw [frame_length]; omega)
      · rfl
    have hcs : c = Pack.one p.length ++ c.drop (Pack.need p.length + 1) := by
      conv => lhs; rw [← List.take_append_drop (Pack.need p.length + 1) c]
      rw [hhead]
    have hdl : (c.drop (Pack.need p.length + 1)).length = p.length + 4 := by rw [List.length_drop, hcl, hTl]; omega
    have htt : Pack.takeText c = some ((c.drop (Pack.need p.length + 1)).take p.length, (c.drop (Pack.need p.length + 1)).drop p.length) := by
      conv => lhs; rw [hcs]
      unfold Pack.takeText
      rw [Pack.take_one _ _ (by omega)]
      simp only
      rw [if_neg (by rw [hdl]; omega)]
    unfold take
    rw [htt]
    simp only
    have hrl : ((c.drop (Pack.need p.length + 1)).drop p.length).length = 4 := by rw [List.length_drop, hdl]; omega
    rw [hrl, if_neg (by rw [List.length_take]; omega), hcl]
    rw [show T.length + 4 - 4 = T.length by omega, show c.take (T.length + 4) = c by rw [← hcl, List.take_length]]
    rw [if_neg]
    intro h
    apply h0
    apply hseen.1
    have h2 := eq_of_beq h
    unfold sealed at h2
    have h3 : c = c.take T.length ++ c.drop T.length := (List.take_append_drop _ _).symm
    conv at h2 => rhs; rw [h3]
    exact List.append_cancel_left h2
end Frame

theorem fburst_bit (f b i : Nat) (h : b / 2 ^ i % 2 = 1) : 2 ^ f * (b % 2 ^ (i + 1)) = 2 ^ f * (b % 2 ^ i) ^^^ 2 ^ (f + i) := by
  apply Nat.eq_of_testBit_eq
  intro j
  rw [Nat.testBit_xor, Nat.testBit_two_pow_mul, Nat.testBit_two_pow_mul, Nat.testBit_mod_two_pow, Nat.testBit_mod_two_pow, Nat.testBit_two_pow]
  have hb : b.testBit i = true := by
    rw [Nat.testBit_eq_decide_div_mod_eq]
    simpa using h
  by_cases h1 : f ≤ j
  · by_cases h2 : f + i = j
    · have e : j - f = i := by omega
      have h3 : i < i + 1 := by omega
      simp [h1, h2, e, hb]
    · by_cases h3 : j - f < i
      · have h4 : j - f < i + 1 := by omega
        simp [h1, h2, h3, h4]
      · have h4 : ¬ j - f < i + 1 := by omega
        simp [h1, h2, h3, h4]
  · have h2 : ¬ f + i = j := by omega
    simp [h1, h2]
theorem fburst_no (f b i : Nat) (h : ¬ b / 2 ^ i % 2 = 1) : 2 ^ f * (b % 2 ^ (i + 1)) = 2 ^ f * (b % 2 ^ i) := by
  congr 1
  rw [Nat.mod_pow_succ]
  have : b / 2 ^ i % 2 = 0 := by omega
  rw [this]; omega

end Go.Proofs.Ytpalnlcjhpkkpaa
