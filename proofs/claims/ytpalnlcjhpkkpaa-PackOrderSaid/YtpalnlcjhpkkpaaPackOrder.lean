/-
  The walk of PackOrder.
-/
import Derived.Test.YtpalnlcjhpkkpaaAwake5
namespace Go.Proofs.Ytpalnlcjhpkkpaa
open Go.RowKit

namespace Pack
theorem val_cons (c : UInt8) (l : List UInt8) : val (c :: l) = c.toNat * 256 ^ l.length + val l := by
  refine snoc_ind (P := fun l => val (c :: l) = c.toNat * 256 ^ l.length + val l) (by simp [val]) (fun l d ih => ?_) l
  rw [← List.cons_append, val_snoc, val_snoc, ih, List.length_append, List.length_singleton, Nat.pow_succ, Nat.add_mul, Nat.mul_assoc]
  omega
theorem less_val : ∀ (x y : List UInt8), x.length = y.length → Op.bytesLess x y = decide (val x < val y) := by
  intro x
  induction x with
  | nil => intro y h; cases y <;> simp_all [Op.bytesLess]
  | cons a x ih =>
    intro y h
    cases y with
    | nil => simp at h
    | cons b y =>
      have hl : x.length = y.length := by simpa using h
      have hx := val_lt x
      have hy := val_lt y
      rw [Op.bytesLess, ih y hl, val_cons, val_cons, hl]
      rw [hl] at hx
      obtain ⟨p, hp⟩ : ∃ p, p = 256 ^ y.length := ⟨_, rfl⟩
      rw [← hp] at hx hy ⊢
      by_cases h1 : a.toNat < b.toNat
      · have h2 := Nat.mul_le_mul_right p (Nat.succ_le_of_lt h1)
        rw [Nat.succ_mul] at h2
        have : a < b := UInt8.lt_iff_toNat_lt.mpr h1
        simp [this]
        omega
      · have h2 : ¬ a < b := fun h => h1 (UInt8.lt_iff_toNat_lt.mp h)
        by_cases h3 : a = b
        · subst h3; simp
        · have h4 : b.toNat < a.toNat := by
            have : a.toNat ≠ b.toNat := fun h => h3 (UInt8.toNat_inj.mp h)
            omega
          have h5 := Nat.mul_le_mul_right p (Nat.succ_le_of_lt h4)
          rw [Nat.succ_mul] at h5
          have h6 : (a == b) = false := by simpa using h3
          have h7 : decide (a < b) = false := by simpa using h2
          rw [h6, h7, Bool.false_and, Bool.or_false]
          symm
          rw [decide_eq_false_iff_not]
          omega
theorem less_one (a b : Nat) (ha : a < 18446744073709551616) (hb : b < 18446744073709551616) : Op.bytesLess (one a) (one b) = decide (a < b) := by
  have a8 := need_le8 a ha
  have b8 := need_le8 b hb
  have ea : (UInt8.ofNat (need a)).toNat = need a := by rw [Crc.u8_toNat]; omega
  have eb : (UInt8.ofNat (need b)).toNat = need b := by rw [Crc.u8_toNat]; omega
  unfold one
  rw [Op.bytesLess]
  by_cases h1 : need a < need b
  · have : UInt8.ofNat (need a) < UInt8.ofNat (need b) := UInt8.lt_iff_toNat_lt.mpr (by rw [ea, eb]; exact h1)
    have h2 : a < b := by
      apply Classical.byContradiction
      intro h
      have := need_mono b a ha (by omega)
      omega
    simp [this, h2]
  · have h0 : ¬ UInt8.ofNat (need a) < UInt8.ofNat (need b) := fun h => h1 (by have := UInt8.lt_iff_toNat_lt.mp h; rwa [ea, eb] at this)
    by_cases h2 : need a = need b
    · rw [h2, less_val _ _ (by rw [be_length, be_length]), val_be _ _ (by rw [← h2]; exact (need_spec a ha).1), val_be _ _ (need_spec b hb).1]
      simp
    · have h3 : UInt8.ofNat (need a) ≠ UInt8.ofNat (need b) := fun h => h2 (by rw [← ea, ← eb, h])
      have h4 : ¬ a < b := fun h => by
        have := need_mono a b hb (by omega)
        omega
      simp [h0, h3, h4]
end Pack

theorem less_str (l m : List UInt8) (b : Bool) (h : Op.bytesLess l m = b) : Op.bytesLess (⟨l.toArray⟩ : ByteArray).toList (⟨m.toArray⟩ : ByteArray).toList = b := by rw [ByteArray.toList_mk, ByteArray.toList_mk]; exact h

theorem packOrder_neg (a b : Int) (w : World) (h : a < 0 ∨ b < 0) : Calls Try.prog 12 #[.int .i64 a, .int .i64 b] w fun e w' => e = .returned (.bool true) ∧ Ext w w' := by
  by_cases ha : a < 0
  · clear h
    go_enter Try.func12, Try.ntmps12
    go_wp2_with (go_at_call 23; refine (awake5_any _).mono ?_; rintro e w1 ⟨rfl, hb1⟩)
    go_ret
    exact ⟨rfl, hb1⟩
  · have hb : b < 0 := by omega
    clear h
    go_enter Try.func12, Try.ntmps12
    go_wp2_with (go_at_call 23; refine (awake5_any _).mono ?_; rintro e w1 ⟨rfl, hb1⟩)
    go_ret
    exact ⟨rfl, hb1⟩

set_option maxHeartbeats 1000000 in
theorem packOrder_pos (a b : Nat) (w : World) (ha : a ≤ 9223372036854775807) (hb : b ≤ 9223372036854775807) : Calls Try.prog 12 #[.int .i64 (a : Int), .int .i64 (b : Int)] w fun e w' => e = .returned (.bool true) ∧ Ext w w' := by
  have HL := Lib.hid (Pack.less_one a b (by omega) (by omega))
  have N1 := Pack.one_length a
  have N2 := Pack.one_length b
  have M1 := Lib.hid (Pack.need_mono a b (by omega))
  obtain ⟨L1, E1⟩ : ∃ L1, Hid (L1 = Pack.one a) := ⟨_, Lib.hid rfl⟩
  obtain ⟨L2, E2⟩ : ∃ L2, Hid (L2 = Pack.one b) := ⟨_, Lib.hid rfl⟩
  obtain ⟨n1, F1⟩ : ∃ n1, Hid (n1 = Pack.need a) := ⟨_, Lib.hid rfl⟩
  obtain ⟨n2, F2⟩ : ∃ n2, Hid (n2 = Pack.need b) := ⟨_, Lib.hid rfl⟩
  rw [← E1.out, ← E2.out] at HL
  rw [← E1.out, ← F1.out] at N1
  rw [← E2.out, ← F2.out] at N2
  rw [← F1.out, ← F2.out] at M1
  have HN1 := Lib.hid N1
  have HN2 := Lib.hid N2
  clear N1 N2
  go_enter Try.func12, Try.ntmps12
  go_wp2_with fail
  refine (awake5_any _).mono ?_
  intro e w1 ⟨he, hb1⟩
  subst he
  have B1 := Lib.hid hb1
  clear hb1
  go_wp2_with fail
  refine (put_any none _ 0 1 [] [(a : Int)] _ (Row.nil _ _) (by simp) (Row.newM w1 #[.int .i64 (a : Int)] 3 (0, 0)) (by simp) (by intro n hn; simp at hn; omega)).mono ?_
  intro e w2 ⟨hb2, h2⟩
  rw [put_one, List.nil_append] at h2
  obtain ⟨v, he, hown⟩ := h2
  subst he
  obtain ⟨A2, c2, hv, hc⟩ := hown.shape
  subst hv
  rw [← E1.out] at hown ⊢
  have R2 := Lib.hid hown.row
  have B2 := Lib.hid (B1.out.trans' ((Ext.a1 w1 _).trans' hb2))
  rw [HN1.out]
  clear hown hb2 hc
  go_wp2_with fail
  refine (put_any none _ 0 1 [] [(b : Int)] _ (Row.nil _ _) (by simp) (Row.newM w2 #[.int .i64 (b : Int)] 3 (0, 0)) (by simp) (by intro n hn; simp at hn; omega)).mono ?_
  intro e w3 ⟨hb3, h3⟩
  rw [put_one, List.nil_append] at h3
  obtain ⟨v, he, hown⟩ := h3
  subst he
  obtain ⟨A3, c3, hv, hc⟩ := hown.shape
  subst hv
  rw [← E2.out] at hown ⊢
  have X3 := (Ext.a1 w2 _).trans' hb3
  have t1 := text_at (c := c2) (R2.out.ext X3) HN1.out
  have t2 := text_at (c := c3) hown.row HN2.out
  have B3 := Lib.hid (B2.out.trans' X3)
  unfold Str at t1 t2
  rw [HN2.out]
  clear hown hb3 hc X3
  by_cases hlt : a < b
  · have hless : Op.bytesLess L1 L2 = true := by rw [HL.out]; simpa using hlt
    have hle : n1 ≤ n2 := M1.out (by omega)
    go_wp2_with fail
    go_ret
    exact ⟨rfl, B3.out⟩
  · have hless : Op.bytesLess L1 L2 = false := by rw [HL.out]; simpa using hlt
    go_wp2_with fail
    go_ret
    exact ⟨rfl, B3.out⟩

end Go.Proofs.Ytpalnlcjhpkkpaa
