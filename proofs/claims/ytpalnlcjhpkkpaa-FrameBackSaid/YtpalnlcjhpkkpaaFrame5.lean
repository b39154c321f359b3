/-
  Frames: the document's One and Put.
-/
import Derived.Test.YtpalnlcjhpkkpaaFrame3
namespace Go.Proofs.Ytpalnlcjhpkkpaa
open Go.RowKit

set_option maxHeartbeats 1000000 in
theorem refOne_any (A2 : Option Addr) (c2 : Nat) (p : List UInt8) (w : World) (hp : p.length ≤ 100000000) (hr2 : Row w A2 (p.map B8)) :
    Calls Try.prog 50 #[.slice A2 p.length c2] w (RetOwn w (Frame.sealed (Pack.text [] p))) := by
  have HR2 := Lib.hid hr2
  clear hr2
  have h8 := Pack.need_le8 p.length (by omega)
  obtain ⟨T, HT⟩ : ∃ T, Hid (T = Pack.text [] p) := ⟨_, Lib.hid rfl⟩
  have hTb : T.length ≤ 200000009 := by rw [HT.out]; unfold Pack.text; simp [Pack.one_length]; omega
  rw [← HT.out]
  have hs := Crc.sum_lt T
  obtain ⟨n, Hn⟩ : ∃ n, Hid (n = Crc.sum T) := ⟨_, Lib.hid rfl⟩
  rw [← Hn.out] at hs
  have HSe := Lib.hid (show Frame.sealed T = T ++ Crc.bytes n by unfold Frame.sealed; rw [Hn.out])
  rw [HSe.out]
  go_enter Try.func50, Try.ntmps50
  go_wp2_with fail
  refine (refText_any none A2 0 c2 [] p w (Row.nil _ _) (by simp) HR2.out (by omega)).mono ?_
  intro e w1 ⟨v, he, hown, hb1⟩
  subst he
  obtain ⟨A3, c3, hv, hc3⟩ := hown.shape
  subst hv
  rw [← HT.out] at hown ⊢
  have HO := Lib.hid hown
  have E1 := Lib.hid hb1
  clear hown hb1 hc3
  go_wp2_with fail
  refine (refSum_any A3 c3 T w1 (by omega) HO.out.row).mono ?_
  intro e w2 ⟨he, hw⟩
  rw [← Hn.out] at he
  subst he
  subst hw
  go_wp2_with fail
  refine (refBytes_any n w1 hs).mono ?_
  intro e w2 ⟨v, he, ⟨A4, c4, hv, hc4, hr4⟩, hb2⟩
  subst he
  subst hv
  have HR4 := Lib.hid hr4
  have E2 := Lib.hid (E1.out.trans' hb2)
  have HO2 := Lib.hid (HO.out.ext hb2)
  have hz := E2.out.size
  have HBl := Lib.hid (show (Crc.bytes n).length = 4 from Crc.le_length 4 n)
  clear hr4 hb2 hc4
  go_wp2_with (at_builtin; go_must (refine wpList_append_bytes bt22 rfl (.tmp 6) (.tmp 9) rfl HO2.out rfl rfl rfl HR4.out (by rw [HBl.out]; omega) hz ?_); intro A5 c5 w5 hown5 hg5 hbl5; have hb5 := Lib.hid (HO2.out.below hg5 E2.out hz (Nat.le_refl _)); have HO5 := Lib.hid hown5; clear hown5 hg5 hbl5)
  go_ret
  exact ⟨_, rfl, HO5.out, hb5.out⟩

set_option maxHeartbeats 1000000 in
theorem refFput_any (A A2 : Option Addr) (c c2 : Nat) (b p : List UInt8) (w : World) (hb : b.length ≤ 100000000) (hp : p.length ≤ 100000000) (hr : Row w A (b.map B8)) (hr2 : Row w A2 (p.map B8)) :
    Calls Try.prog 36 #[.slice A b.length c, .slice A2 p.length c2] w (RetFPut w (Frame.put b p)) := by
  have HR := Lib.hid hr
  have HR2 := Lib.hid hr2
  clear hr hr2
  by_cases hlen : 100000 < p.length
  · have HF := Lib.hid (show Frame.put b p = none by unfold Frame.put; rw [if_pos hlen])
    rw [HF.out]
    go_enter Try.func36, Try.ntmps36
    go_wp2_with fail
    go_ret2
    exact ⟨Below.refl _ _, rfl⟩
  · have HF := Lib.hid (show Frame.put b p = some (b ++ Frame.sealed (Pack.text [] p)) by unfold Frame.put; rw [if_neg hlen])
    rw [HF.out]
    have h8 := Pack.need_le8 p.length (by omega)
    have HC := Lib.hid (fun w => refOne_any A2 c2 p w hp)
    obtain ⟨S, HS⟩ : ∃ S, Hid (S = Frame.sealed (Pack.text [] p)) := ⟨_, Lib.hid rfl⟩
    have hSb : S.length ≤ 200000009 := by rw [HS.out, Frame.sealed_length]; unfold Pack.text; simp [Pack.one_length]; omega
    rw [← HS.out] at HC ⊢
    have hown0 := Own.new w w.heap.size (Nat.le_refl _) [] 0 rfl (by simp) #[] rfl
    go_enter Try.func36, Try.ntmps36
    go_wp2_with (at_builtin; go_must (refine wpList_append_bytes bt22 rfl (.tmp 9) (.tmp 10) rfl hown0 rfl rfl rfl (HR.out.ext (Ext.a1 _ _)) (by simp; omega) (by simp) ?_); intro A4 c4 w4 hown4 hg4 hbl4; simp only [List.length_nil, Nat.zero_add, List.nil_append] at hown4 hg4; have E4 := Lib.hid (hown0.below hg4 (Ext.a1 w _) (by simp) (Nat.le_refl _)); have HO4 := Lib.hid hown4; clear hown4 hg4 hbl4)
    refine (HC.out w4 (HR2.out.ext E4.out)).mono ?_
    intro e w5 ⟨v, he, hown5, hb5⟩
    subst he
    obtain ⟨A5, c5, hv, hc5⟩ := hown5.shape
    subst hv
    have HR5 := Lib.hid hown5.row
    have HO5 := Lib.hid (HO4.out.ext hb5)
    have E5 := Lib.hid (Ext.trans' E4.out hb5)
    have hz5 := E5.out.size
    clear hown5 hb5 hc5
    go_wp2_with (at_builtin; go_must (refine wpList_append_bytes bt22 rfl (.tmp 11) (.tmp 13) rfl HO5.out rfl rfl rfl HR5.out (by omega) hz5 ?_); intro A6 c6 w6 hown6 hg6 hbl6; have E6 := Lib.hid (HO5.out.below hg6 E5.out hz5 (Nat.le_refl _)); have HO6 := Lib.hid hown6; clear hown6 hg6 hbl6)
    go_ret2
    exact ⟨E6.out, _, rfl, HO6.out⟩

end Go.Proofs.Ytpalnlcjhpkkpaa
