/-
  Frames: the document's One and Put.
-/
import Derived.Test.YtjcngipaeoegcaaFrame3
namespace Go.Proofs.Ytjcngipaeoegcaa
open Go.RowKit

set_option maxHeartbeats 1000000 in
theorem refOne_any (A2 : Option Addr) (c2 : Nat) (p : List UInt8) (w : World) (hp : p.length ≤ 100000000) (hr2 : Row w A2 (p.map B8)) :
    Calls Try.prog 28 #[.slice A2 p.length c2] w (RetOwn w (Frame.sealed (Pack.text [] p))) := by
  have HR2 := Lib.hid hr2
  clear hr2
  have h8 := Pack.need_le8 p.length (by omega)
  obtain ⟨T, HT⟩ : ∃ T, Hid (T = Pack.text [] p) := ⟨_, Lib.hid rfl⟩
  have hTb : T.length ≤ 200000009 := by rw [HT.out]; unfold Pack.text; simp [Pack.one_length]; omega
  rw [← HT.out]
  have hs := Crc.sum_lt T
  obtain ⟨n, Hn⟩ : ∃ n, Hid (n = Crc.sum T) := ⟨_, Lib.hid rfl⟩
  rw [← Hn.out] at hs
  have HSe := Lib.hid (show Frame.sealed T = T ++ Crc.bytes n by unfold Frame.sealed; rw [Hn.out])
  rw [HSe.out]
  go_enter Try.func28, Try.ntmps28
  go_wp2_with fail
  refine (refText_any none A2 0 c2 [] p w (Row.nil _ _) (by simp) HR2.out (by omega)).mono ?_
  intro e w1 ⟨v, he, hown, hb1⟩
  subst he
  obtain ⟨A3, c3, hv, hc3⟩ := hown.shape
  subst hv
  rw [← HT.out] at hown ⊢
  have HO := Lib.hid hown
  have E1 := Lib.hid hb1
  clear hown hb1 hc3
  go_wp2_with fail
  refine (refSum_any A3 c3 T w1 (by omega) HO.out.row).mono ?_
  intro e w2 ⟨he, hw⟩
  rw [← Hn.out] at he
  subst he
  subst hw
  go_wp2_with fail
  refine (refBytes_any n w1 hs).mono ?_
  intro e w2 ⟨v, he, ⟨A4, c4, hv, hc4, hr4⟩, hb2⟩
  subst he
  subst hv
  have HR4 := Lib.hid hr4
  have E2 := Lib.hid (E1.out.trans' hb2)
  have HO2 := Lib.hid (HO.out.ext hb2)
  have hz := E2.out.size
  have HBl := Lib.hid (show (Crc.bytes n).length = 4 from Crc.le_length 4 n)
  clear hr4 hb2 hc4
  go_wp2_with (at_builtin; go_must (refine wpList_append_bytes bt22 rfl (.tmp 6) (.tmp 9) rfl HO2.out rfl rfl rfl HR4.out (by rw [HBl.out]; omega) hz ?_); intro A5 c5 w5 hown5 hg5 hbl5; have hb5 := Lib.hid (HO2.out.below hg5 E2.out hz (Nat.le_refl _)); have HO5 := Lib.hid hown5; clear hown5 hg5 hbl5)
  go_ret
  exact ⟨_, rfl, HO5.out, hb5.out⟩

end Go.Proofs.Ytjcngipaeoegcaa
