/-
  The walk of FrameOwn.
-/
import Derived.Test.YtpalnlcjhpkkpaaFTells
namespace Go.Proofs.Ytpalnlcjhpkkpaa
open Go.RowKit

theorem frameOwn_long (A1 : Option Addr) (n1 c1 : Nat) (w : World) (h : 3000 < n1) :
    Calls Try.prog 17 #[.slice A1 n1 c1] w fun e w' => e = .returned (.bool true) ∧ Ext w w' := by
  go_enter Try.func17, Try.ntmps17
  go_wp2_with (go_at_call 34; refine (awake6_any _).mono ?_; rintro e w1 ⟨rfl, hb1⟩)
  go_ret
  exact ⟨rfl, hb1⟩

set_option maxHeartbeats 4000000 in
set_option maxRecDepth 100000 in
theorem frameOwn_any (A1 : Option Addr) (c1 : Nat) (l : List UInt8) (w : World) (hl : l.length ≤ 3000) (hc1 : l.length ≤ c1) (hr1 : Row w A1 (l.map B8)) :
    Calls Try.prog 17 #[.slice A1 l.length c1] w fun e w' => e = .returned (.bool true) ∧ Ext w w' := by
  have R1 := Lib.hid hr1
  clear hr1
  cases ht : Frame.take l with
  | none =>
    go_enter Try.func17, Try.ntmps17
    go_wp2_with (go_at_call 34; refine (awake6_any _).mono ?_; rintro e w1 ⟨rfl, hb1⟩)
    have h2 := ftake_any A1 c1 l w1 hc1 (by omega) (R1.out.ext hb1)
    rw [ht] at h2
    refine h2.mono ?_
    intro e w2 ⟨hb2, he⟩
    simp only at he
    subst he
    go_wp2_with fail
    go_ret
    exact ⟨rfl, hb1.trans' hb2⟩
  | some pr =>
    obtain ⟨p, r⟩ := pr
    obtain ⟨hown, hp⟩ := Frame.take_own _ _ _ ht
    have hput : Frame.put [] p = some (Frame.frame p) := by
      unfold Frame.put Frame.frame
      rw [if_neg (by omega)]
      simp
    have hfl := Frame.frame_length p
    have hll : l.length = (Frame.frame p).length + r.length := by rw [hown, List.length_append]
    obtain ⟨F, hF⟩ : ∃ F, Hid (F = Frame.frame p) := ⟨_, Lib.hid rfl⟩
    rw [← hF.out] at hown hput hfl hll
    have HOWN := Lib.hid hown
    have HPUT := Lib.hid hput
    have HS := Lib.hid (fun w => size_any p.length w (by omega))
    have HFL := Lib.hid hfl
    have h8 := Pack.need_le8 p.length (by omega)
    obtain ⟨nn, hnn⟩ : ∃ nn, Hid (nn = Pack.need p.length) := ⟨_, Lib.hid rfl⟩
    rw [← hnn.out] at HFL HS h8
    have HE := Lib.hid (show F ++ r == l by rw [← HOWN.out]; simp)
    have hlen : (F.length : Int) = ((nn : Int) + 1) + (p.length : Int) + 4 := by have := HFL.out; omega
    have HT := Lib.hid ht
    have hcap := Lib.hid (show F.length + r.length = l.length from hll.symm)
    clear hown hput hfl hll ht
    go_enter Try.func17, Try.ntmps17
    go_wp2_with (go_at_call 34; refine (awake6_any _).mono ?_; rintro e w1 ⟨rfl, hb1⟩)
    have h2 := ftake_any A1 c1 l w1 hc1 (by omega) (R1.out.ext hb1)
    rw [HT.out] at h2
    refine h2.mono ?_
    clear h2
    intro e w2 ⟨hb2, v1, v2, he, ⟨A6, c6, hv1, hc6, hr6⟩, ⟨A7, c7, hv2, hc7, hr7⟩⟩
    subst hv1
    subst hv2
    subst he
    have E2 := Lib.hid (hb1.trans' hb2)
    have P6 := Lib.hid hr6
    have P7 := Lib.hid hr7
    clear hr6 hr7 hc6 hc7 hb1 hb2
    go_wp2_with fail
    have h3 := fput_any none A6 0 c6 [] p w2 (by simp) (by omega) (Row.nil _ _) P6.out
    rw [HPUT.out] at h3
    refine h3.mono ?_
    clear h3
    intro e w3 ⟨hb3, v, he, hO⟩
    obtain ⟨A8, c8, hv, hc8⟩ := hO.shape
    subst hv
    subst he
    have E3 := Lib.hid (E2.out.trans' hb3)
    have P73 := P7.out.ext hb3
    have t1 := text_at (n := F.length) (c := c8) hO.row rfl
    have t2 := text_at (n := r.length) (c := c7) P73 rfl
    have t3 := text_at (n := l.length) (c := c1) (R1.out.ext E3.out) rfl
    unfold Str at t1 t2 t3
    have hfit : ¬ 9223372036854775807 < F.length + r.length := by rw [hcap.out]; omega
    have hcat : ((⟨F.toArray⟩ : ByteArray) ++ ⟨r.toArray⟩).toList = l := by
      rw [HOWN.out, show ((⟨F.toArray⟩ : ByteArray) ++ ⟨r.toArray⟩) = ⟨(F ++ r).toArray⟩ from ByteArray.ext (by simp), ByteArray.toList_mk]
    clear hb3 hc8 hO P73
    go_wp2_with (go_at_call 30; refine (HS.out _).mono ?_; rintro e w8 ⟨rfl, rfl⟩)
    go_ret
    exact ⟨rfl, E3.out⟩

end Go.Proofs.Ytpalnlcjhpkkpaa
