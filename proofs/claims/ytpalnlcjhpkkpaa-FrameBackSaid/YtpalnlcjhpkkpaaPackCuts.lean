/-
  The walk of PackCuts.
-/
import Derived.Test.YtpalnlcjhpkkpaaAwake5
namespace Go.Proofs.Ytpalnlcjhpkkpaa
open Go.RowKit

namespace Pack
theorem takeText_own (b t r : List UInt8) (h : takeText b = some (t, r)) : b = one t.length ++ (t ++ r) ∧ t.length < 9223372036854775808 := by
  unfold takeText at h
  split at h
  · rename_i n s hs
    obtain ⟨h1, h2⟩ := take_own _ _ _ hs
    split at h
    · cases h
    · rename_i hl
      injection h with h
      injection h with ht hr
      have hn : t.length = n := by rw [← ht, List.length_take]; omega
      refine ⟨?_, by omega⟩
      rw [hn, h1, ← ht, ← hr, List.take_append_drop]
  · cases h
theorem takeText_text (t r : List UInt8) (h : t.length < 9223372036854775808) : takeText (one t.length ++ (t ++ r)) = some (t, r) := by
  unfold takeText
  rw [take_one _ _ h]
  simp only
  rw [if_neg (by rw [List.length_append]; omega)]
  simp
theorem take_cut (n k : Nat) (h : n < 9223372036854775808) (hk : k < (one n).length) : take ((one n).take k) = none := by
  cases ht : take ((one n).take k) with
  | none => rfl
  | some p =>
    obtain ⟨m, r⟩ := p
    obtain ⟨h1, h2⟩ := take_own _ _ _ ht
    have h3 := take_one n [] h
    rw [List.append_nil] at h3
    have h4 : one n = one m ++ (r ++ (one n).drop k) := by rw [← List.append_assoc, ← h1, List.take_append_drop]
    have h5 := take_one m (r ++ (one n).drop k) h2
    rw [← h4, h3] at h5
    injection h5 with h5
    injection h5 with _ h5
    have h6 := congrArg List.length h5
    rw [List.length_append, List.length_drop, List.length_nil] at h6
    omega
theorem takeText_cut (t : List UInt8) (k : Nat) (h : t.length < 9223372036854775808) (hk : k < (text [] t).length) : takeText ((text [] t).take k) = none := by
  cases ht : takeText ((text [] t).take k) with
  | none => rfl
  | some p =>
    obtain ⟨m, r⟩ := p
    obtain ⟨h1, h2⟩ := takeText_own _ _ _ ht
    have h3 := takeText_text t [] h
    have h0 : one t.length ++ (t ++ []) = text [] t := by simp [text]
    rw [h0] at h3
    have h4 : text [] t = one m.length ++ (m ++ (r ++ (text [] t).drop k)) := by
      conv => lhs; rw [← List.take_append_drop k (text [] t), h1]
      simp
    have h5 := takeText_text m (r ++ (text [] t).drop k) h2
    rw [← h4, h3] at h5
    injection h5 with h5
    injection h5 with _ h5
    have h6 := congrArg List.length h5
    rw [List.length_append, List.length_drop, List.length_nil] at h6
    omega
end Pack

theorem packCuts_no (n : Int) (cut : Nat) (A : Option Addr) (m c : Nat) (w : World) (h : 1000 < m ∨ n < 0) : Calls Try.prog 11 #[.int .i64 n, .slice A m c, .int .u16 (cut : Int)] w fun e w' => e = .returned (.bool true) ∧ Ext w w' := by
  by_cases ha : 1000 < m
  · clear h
    go_enter Try.func11, Try.ntmps11
    go_wp2_with (go_at_call 23; refine (awake5_any _).mono ?_; rintro e w1 ⟨rfl, hb1⟩)
    go_ret
    exact ⟨rfl, hb1⟩
  · have hb : n < 0 := by omega
    clear h
    go_enter Try.func11, Try.ntmps11
    go_wp2_with (go_at_call 23; refine (awake5_any _).mono ?_; rintro e w1 ⟨rfl, hb1⟩)
    go_ret
    exact ⟨rfl, hb1⟩

set_option maxHeartbeats 1000000 in
theorem packCuts_any (n cut : Nat) (A : Option Addr) (c : Nat) (t : List UInt8) (w : World) (hn : n ≤ 9223372036854775807) (hcut : cut < 65536) (ht : t.length ≤ 1000) (hr : Row w A (t.map B8)) :
    Calls Try.prog 11 #[.int .i64 (n : Int), .slice A t.length c, .int .u16 (cut : Int)] w fun e w' => e = .returned (.bool true) ∧ Ext w w' := by
  have HR := Lib.hid hr
  have N1 := Pack.one_length n
  have N2 : (Pack.text [] t).length = Pack.need t.length + 1 + t.length := by unfold Pack.text; simp [Pack.one_length]
  have K1 := Lib.hid (Pack.take_cut n (cut % (Pack.one n).length) (by omega) (Nat.mod_lt _ (by omega)))
  have K2 := Lib.hid (Pack.takeText_cut t (cut % (Pack.text [] t).length) (by omega) (Nat.mod_lt _ (by omega)))
  have g1 := Pack.need_le8 n (by omega)
  have g2 := Pack.need_le8 t.length (by omega)
  obtain ⟨L1, E1⟩ : ∃ L1, Hid (L1 = Pack.one n) := ⟨_, Lib.hid rfl⟩
  obtain ⟨L2, E2⟩ : ∃ L2, Hid (L2 = Pack.text [] t) := ⟨_, Lib.hid rfl⟩
  obtain ⟨n1, F1⟩ : ∃ n1, Hid (n1 = Pack.need n) := ⟨_, Lib.hid rfl⟩
  obtain ⟨n2, F2⟩ : ∃ n2, Hid (n2 = Pack.need t.length) := ⟨_, Lib.hid rfl⟩
  rw [← E1.out] at N1 K1
  rw [← E2.out] at N2 K2
  rw [← F1.out] at N1 g1
  rw [← F2.out] at N2 g2
  rw [N1] at K1
  rw [N2] at K2
  have HN1 := Lib.hid N1
  have HN2 := Lib.hid N2
  clear N1 N2 hr
  go_enter Try.func11, Try.ntmps11
  go_wp2_with fail
  refine (awake5_any _).mono ?_
  intro e w1 ⟨he, hb1⟩
  subst he
  have B1 := Lib.hid hb1
  clear hb1
  go_wp2_with fail
  refine (put_any none _ 0 1 [] [(n : Int)] _ (Row.nil _ _) (by simp) (Row.newM w1 #[.int .i64 (n : Int)] 3 (0, 0)) (by simp) (by intro n hn; simp at hn; omega)).mono ?_
  intro e w2 ⟨hb2, h2⟩
  rw [put_one, List.nil_append] at h2
  obtain ⟨v, he, hown⟩ := h2
  subst he
  obtain ⟨A2, c2, hv, hc2⟩ := hown.shape
  subst hv
  rw [← E1.out] at hown hc2 ⊢
  have R2 := Lib.hid hown.row
  have B2 := Lib.hid (B1.out.trans' ((Ext.a1 w1 _).trans' hb2))
  rw [HN1.out] at hc2 ⊢
  clear hown hb2
  go_wp2_with fail
  refine (text_any none _ 0 _ [] t _ (Row.nil _ _) (by simp) (HR.out.ext B2.out) (by omega)).mono ?_
  intro e w3 ⟨v, he, hown, hb3⟩
  subst he
  obtain ⟨A3, c3, hv, hc3⟩ := hown.shape
  subst hv
  rw [← E2.out] at hown hc3 ⊢
  have R3 := Lib.hid hown.row
  have X3 := Lib.hid hb3
  rw [HN2.out] at hc3 ⊢
  clear hown hb3
  obtain ⟨k1, G1⟩ : ∃ k1, Hid (k1 = cut % (n1 + 1)) := ⟨_, Lib.hid rfl⟩
  obtain ⟨k2, G2⟩ : ∃ k2, Hid (k2 = cut % (n2 + 1 + t.length)) := ⟨_, Lib.hid rfl⟩
  have k1l : k1 < n1 + 1 := by rw [G1.out]; exact Nat.mod_lt _ (by omega)
  have k2l : k2 < n2 + 1 + t.length := by rw [G2.out]; exact Nat.mod_lt _ (by omega)
  rw [← G1.out] at K1
  rw [← G2.out] at K2
  have i1 : Int.tmod (cut : Int) ((n1 : Int) + 1) = (k1 : Int) := by rw [G1.out, Int.tmod_eq_emod_of_nonneg (by omega)]; simp
  have i2 : Int.tmod (cut : Int) ((n2 : Int) + 1 + (t.length : Int)) = (k2 : Int) := by rw [G2.out, Int.tmod_eq_emod_of_nonneg (by omega)]; simp
  have hk1 : k1 = (L1.take k1).length := by rw [List.length_take, HN1.out]; omega
  have hk2 : k2 = (L2.take k2).length := by rw [List.length_take, HN2.out]; omega
  have HK1 := Lib.hid hk1
  have HK2 := Lib.hid hk2
  clear hk1 hk2
  have z1 : (((n1 : Int) + 1) == 0) = false := by rw [beq_eq_false_iff_ne]; omega
  have z2 : (((n2 : Int) + 1 + (t.length : Int)) == 0) = false := by rw [beq_eq_false_iff_ne]; omega
  go_wp2_with fail
  have T1 := take_any A2 c2 (L1.take k1) w3 (by rw [← HK1.out]; omega) (by rw [← HK1.out]; omega) (by rw [List.map_take]; exact (R2.out.ext X3.out).take k1)
  rw [← HK1.out, K1.out] at T1
  refine T1.mono ?_
  intro e w4 ⟨hb4, h4⟩
  simp only at h4
  subst h4
  have X4 := Lib.hid hb4
  clear hb4 T1
  go_wp2_with fail
  have T2 := takeText_any A3 c3 (L2.take k2) w4 (by rw [← HK2.out]; omega) (by rw [← HK2.out]; omega) (by rw [List.map_take]; exact (R3.out.ext X4.out).take k2)
  rw [← HK2.out, K2.out] at T2
  refine T2.mono ?_
  intro e w5 ⟨hb5, h5⟩
  simp only at h5
  subst h5
  have B5 := Lib.hid (B2.out.trans' (X3.out.trans' (X4.out.trans' hb5)))
  clear hb5 T2
  have HS := Lib.hid (size_any t.length w5 (by omega))
  rw [← F2.out] at HS
  go_wp2_with (go_at_call 30; refine HS.out.mono ?_; rintro e w8 ⟨rfl, rfl⟩)
  go_ret
  exact ⟨rfl, B5.out⟩

end Go.Proofs.Ytpalnlcjhpkkpaa
