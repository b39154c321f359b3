/-
  The walk of FrameTells.
-/
import Derived.Test.YtpalnlcjhpkkpaaAwake6
import Derived.Test.YtpalnlcjhpkkpaaFrame12
namespace Go.Proofs.Ytpalnlcjhpkkpaa
open Go.RowKit

def fcode {α : Type} (r : Option α) : Int := match r with | some _ => 0 | none => 60
def fbytes (r : Option (List UInt8)) : List UInt8 := match r with | some l => l | none => []
def fhead (r : Option (List UInt8 × List UInt8)) : List UInt8 := match r with | some (t, _) => t | none => []
def frest (r : Option (List UInt8 × List UInt8)) : List UInt8 := match r with | some (_, s) => s | none => []

theorem RetFPut.all {w w' : World} {r : Option (List UInt8)} {e : Ending} (h : RetFPut w r e w') : ∃ A c, e = .returned (.tuple #[.slice A (fbytes r).length c, .int .i64 (fcode r)]) ∧ (fbytes r).length ≤ c ∧ Row w' A ((fbytes r).map B8) ∧ Ext w w' := by
  obtain ⟨hb, h⟩ := h
  cases r with
  | none => exact ⟨none, 0, h, Nat.le_refl _, Row.nil _ _, hb⟩
  | some l =>
    obtain ⟨v, he, hown⟩ := h
    obtain ⟨A, c, hv, hc⟩ := hown.shape
    subst hv
    exact ⟨A, c, he, hc, hown.row, hb⟩
theorem RetFTake.all {w w' : World} {r : Option (List UInt8 × List UInt8)} {e : Ending} (h : RetFTake w r e w') : ∃ A c A2 c2, e = .returned (.tuple #[.slice A (fhead r).length c, .slice A2 (frest r).length c2, .int .i64 (fcode r)]) ∧
    (fhead r).length ≤ c ∧ (frest r).length ≤ c2 ∧ Row w' A ((fhead r).map B8) ∧ Row w' A2 ((frest r).map B8) ∧ Ext w w' := by
  obtain ⟨hb, h⟩ := h
  cases r with
  | none => exact ⟨none, 0, none, 0, h, Nat.le_refl _, Nat.le_refl _, Row.nil _ _, Row.nil _ _, hb⟩
  | some p =>
    obtain ⟨t, s⟩ := p
    obtain ⟨v1, v2, he, ⟨A, c, hv1, hc, hr⟩, ⟨A2, c2, hv2, hc2, hr2⟩⟩ := h
    subst hv1
    subst hv2
    exact ⟨A, c, A2, c2, he, hc, hc2, hr, hr2, hb⟩

theorem frameTells_long (A1 A2 : Option Addr) (n1 n2 c1 c2 : Nat) (w : World) (h : 3000 < n1 ∨ 3000 < n2) :
    Calls Try.prog 13 #[.slice A1 n1 c1, .slice A2 n2 c2] w fun e w' => e = .returned (.bool true) ∧ Ext w w' := by
  by_cases h1 : 3000 < n1
  · have hd : decide ((3000 : Int) < (n1 : Int)) = true := by simp; omega
    go_enter Try.func13, Try.ntmps13
    go_wp2_with (go_at_call 34; refine (awake6_any _).mono ?_; rintro e w1 ⟨rfl, hb1⟩)
    go_ret
    exact ⟨rfl, hb1⟩
  · have hd : decide ((3000 : Int) < (n1 : Int)) = false := by simp; omega
    have hd2 : decide ((3000 : Int) < (n2 : Int)) = true := by simp; omega
    go_enter Try.func13, Try.ntmps13
    go_wp2_with (go_at_call 34; refine (awake6_any _).mono ?_; rintro e w1 ⟨rfl, hb1⟩)
    go_ret
    exact ⟨rfl, hb1⟩

set_option maxHeartbeats 4000000 in
set_option maxRecDepth 100000 in
theorem frameTells_any (A1 A2 : Option Addr) (c1 c2 : Nat) (b p : List UInt8) (w : World) (hb : b.length ≤ 3000) (hp : p.length ≤ 3000) (hc1 : b.length ≤ c1) (hr1 : Row w A1 (b.map B8)) (hr2 : Row w A2 (p.map B8)) :
    Calls Try.prog 13 #[.slice A1 b.length c1, .slice A2 p.length c2] w fun e w' => e = .returned (.bool true) ∧ Ext w w' := by
  have hd : decide ((3000 : Int) < (b.length : Int)) = false := by simp; omega
  have hd2 : decide ((3000 : Int) < (p.length : Int)) = false := by simp; omega
  have R1 := Lib.hid hr1
  have R2 := Lib.hid hr2
  clear hr1 hr2
  obtain ⟨rp, hrp⟩ : ∃ rp, rp = Frame.put b p := ⟨_, rfl⟩
  obtain ⟨rt, hrt⟩ : ∃ rt, rt = Frame.take b := ⟨_, rfl⟩
  obtain ⟨X, hX⟩ : ∃ X, Hid (X = fbytes rp) := ⟨_, Lib.hid rfl⟩
  obtain ⟨H, hH⟩ : ∃ H, Hid (H = fhead rt) := ⟨_, Lib.hid rfl⟩
  obtain ⟨T, hT⟩ : ∃ T, Hid (T = frest rt) := ⟨_, Lib.hid rfl⟩
  obtain ⟨kp, hkp⟩ : ∃ kp, Hid (kp = fcode rp) := ⟨_, Lib.hid rfl⟩
  obtain ⟨kt, hkt⟩ : ∃ kt, Hid (kt = fcode rt) := ⟨_, Lib.hid rfl⟩
  obtain ⟨L, hL⟩ : ∃ L, Hid (L = (Frame.all b).1) := ⟨_, Lib.hid rfl⟩
  obtain ⟨N, hN⟩ : ∃ N, Hid (N = (b.length : Int) - ((Frame.all b).2.length : Int)) := ⟨_, Lib.hid rfl⟩
  have HF := Lib.hid (Frame.all_few b).1
  go_enter Try.func13, Try.ntmps13
  go_wp2_with (go_at_call 34; refine (awake6_any _).mono ?_; rintro e w1 ⟨rfl, hb1⟩)
  refine (fput_any A1 A2 c1 c2 b p w1 (by omega) (by omega) (R1.out.ext hb1) (R2.out.ext hb1)).mono ?_
  intro e w2 h2
  rw [← hrp] at h2
  obtain ⟨B2, d2, he, hd2', hr2, hb2⟩ := h2.all
  rw [← hX.out, ← hkp.out] at he
  rw [← hX.out] at hr2
  subst he
  have E2 := Lib.hid (hb1.trans' hb2)
  have P2 := Lib.hid hr2
  clear h2 hr2 hb2 hd2' hb1
  go_wp2_with fail
  refine (refFput_any A1 A2 c1 c2 b p w2 (by omega) (by omega) (R1.out.ext E2.out) (R2.out.ext E2.out)).mono ?_
  intro e w3 h3
  rw [← hrp] at h3
  obtain ⟨B3, d3, he, hd3', hr3, hb3⟩ := h3.all
  rw [← hX.out, ← hkp.out] at he
  rw [← hX.out] at hr3
  subst he
  have E3 := Lib.hid (E2.out.trans' hb3)
  have P23 := Lib.hid (P2.out.ext hb3)
  have P3 := Lib.hid hr3
  clear h3 hr3 hb3 hd3'
  go_wp2_with fail
  refine (ftake_any A1 c1 b w3 hc1 (by omega) (R1.out.ext E3.out)).mono ?_
  intro e w4 h4
  rw [← hrt] at h4
  obtain ⟨B4, d4, C4, e4, he, _, _, hr4, hs4, hb4⟩ := h4.all
  rw [← hH.out, ← hT.out, ← hkt.out] at he
  rw [← hH.out] at hr4
  rw [← hT.out] at hs4
  subst he
  have E4 := Lib.hid (E3.out.trans' hb4)
  have P24 := Lib.hid (P23.out.ext hb4)
  have P34 := Lib.hid (P3.out.ext hb4)
  have P4 := Lib.hid hr4
  have S4 := Lib.hid hs4
  clear h4 hr4 hs4 hb4
  go_wp2_with fail
  refine (refFtake_any A1 c1 b w4 hc1 (by omega) (R1.out.ext E4.out)).mono ?_
  intro e w5 h5
  rw [← hrt] at h5
  obtain ⟨B5, d5, C5, e5, he, _, _, hr5, hs5, hb5⟩ := h5.all
  rw [← hH.out, ← hT.out, ← hkt.out] at he
  rw [← hH.out] at hr5
  rw [← hT.out] at hs5
  subst he
  have E5 := Lib.hid (E4.out.trans' hb5)
  have P25 := Lib.hid (P24.out.ext hb5)
  have P35 := Lib.hid (P34.out.ext hb5)
  have P45 := Lib.hid (P4.out.ext hb5)
  have S45 := Lib.hid (S4.out.ext hb5)
  have P5 := Lib.hid hr5
  have S5 := Lib.hid hs5
  clear h5 hr5 hs5 hb5
  go_wp2_with fail
  refine (fall_any A1 c1 b w5 hc1 (by omega) (R1.out.ext E5.out)).mono ?_
  rw [← hN.out, ← hL.out]
  intro e w6 ⟨v6, he, hl6, hb6⟩
  obtain ⟨B6, d6, hv, hd6⟩ := hl6.shape
  subst hv
  subst he
  have E6 := Lib.hid (E5.out.trans' hb6)
  have HL6 := Lib.hid hl6.ls
  have P26 := Lib.hid (P25.out.ext hb6)
  have P36 := Lib.hid (P35.out.ext hb6)
  have P46 := Lib.hid (P45.out.ext hb6)
  have S46 := Lib.hid (S45.out.ext hb6)
  have P56 := Lib.hid (P5.out.ext hb6)
  have S56 := Lib.hid (S5.out.ext hb6)
  clear hl6 hb6 hd6
  go_wp2_with fail
  refine (refFall_any A1 c1 b w6 hc1 (by omega) (R1.out.ext E6.out)).mono ?_
  rw [← hN.out, ← hL.out]
  rintro e w7 ⟨B7, d7, rfl, hd7, hl7, hb7⟩
  have E7 := Lib.hid (E6.out.trans' hb7)
  have HL67 := Lib.hid (HL6.out.ext hb7)
  have HL7 := Lib.hid hl7
  have t1 := text_at (n := X.length) (c := d2) (P26.out.ext hb7) rfl
  have t2 := text_at (n := X.length) (c := d3) (P36.out.ext hb7) rfl
  have t3 := text_at (n := H.length) (c := d4) (P46.out.ext hb7) rfl
  have t4 := text_at (n := T.length) (c := e4) (S46.out.ext hb7) rfl
  have t5 := text_at (n := H.length) (c := d5) (P56.out.ext hb7) rfl
  have t6 := text_at (n := T.length) (c := e5) (S56.out.ext hb7) rfl
  unfold Str at t1 t2 t3 t4 t5 t6
  clear hb7 hl7 hd7
  have HM := Lib.hid (show L.length ≤ 100000000 by rw [hL.out]; have := HF.out; omega)
  go_wp2_with (go_at_call 41; refine (same_any B6 B7 d6 d7 L L _ HM.out HM.out HL67.out HL7.out).mono ?_; rintro e w8 ⟨rfl, hb8⟩)
  go_ret
  exact ⟨rfl, E7.out.trans' hb8⟩

end Go.Proofs.Ytpalnlcjhpkkpaa
