/-
  The fixed calls on numbers as bytes answer true.
-/
import Derived.Test.YtpalnlcjhpkkpaaTakeText
import Derived.Test.YtpalnlcjhpkkpaaPackRef
namespace Go.Proofs.Ytpalnlcjhpkkpaa
open Go.RowKit

theorem text_at {w : World} {A : Option Addr} {n c : Nat} {l : List UInt8} (hr : Row w A (l.map B8)) (hn : l.length = n) : (convert 22 9 (.slice A n c)).run Try.prog w = .ok (Str l) w := by
  subst hn
  exact run_text (P := Try.prog) Try.underlying22 Try.underlying5 Try.underlying9 hr

theorem fixed1 : Pack.put [9] [0, 258] = some [9, 0, 2, 1, 2] := by decide +kernel
theorem fixed2 : Pack.put [] [-1] = none := by decide +kernel
theorem fixed3 : Pack.take [2, 1, 2, 7] = some (258, [7]) := by decide +kernel
theorem fixed4 : Pack.take [1, 0] = none := by decide +kernel
theorem fixed5 : Pack.text [] [97, 98] = [1, 2, 97, 98] := by decide +kernel
theorem fixed6 : Pack.takeText [1, 2, 97, 98] = some ([97, 98], []) := by decide +kernel
theorem fixed7 : Pack.need 256 = 2 := by decide +kernel

set_option maxRecDepth 100000 in
set_option maxHeartbeats 1000000 in
theorem awake5_any (w : World) : Calls Try.prog 23 #[] w fun e w' => e = .returned (.bool true) ∧ Ext w w' := by
  have kc1 := bytes_const1 22 5 Try.underlying22 Try.underlying5
  go_enter Try.func23, Try.ntmps23
  go_wp2_with fail
  refine (put_any _ _ 1 2 [9] [0, 258] _ ((Row.newM w #[.int .u8 9] 5 (0, 0)).ext (Ext.a1 _ _)) (by simp) (by have h := Row.newM (w.alloc (.cells #[.int .u8 9] 5)) #[.int .i64 0, .int .i64 258] 3 (0, 0); simp only [World.size_alloc] at h; exact h) (by simp) (by intro n hn; simp at hn; omega)).mono ?_
  intro e w1 ⟨hb1, h1⟩
  rw [fixed1] at h1
  obtain ⟨v, he, hown⟩ := h1
  subst he
  obtain ⟨A1, c1, hv, hc⟩ := hown.shape
  subst hv
  have R1 := Lib.hid hown.row
  have B1 := Lib.hid (((Ext.a1 w _).alloc' _).trans' hb1)
  clear hown hb1 hc
  go_wp2_with fail
  refine (put_any none _ 0 1 [] [-1] _ (Row.nil _ _) (by simp) (Row.newM w1 #[.int .i64 (-1)] 3 (0, 0)) (by simp) (by intro n hn; simp at hn; omega)).mono ?_
  intro e w2 ⟨hb2, h2⟩
  rw [fixed2] at h2
  simp only at h2
  subst h2
  have X2 := Lib.hid ((Ext.a1 w1 _).trans' hb2)
  clear hb2
  go_wp2_with fail
  refine (take_any _ 4 [2, 1, 2, 7] _ (by simp) (by simp) (Row.newM w2 #[.int .u8 2, .int .u8 1, .int .u8 2, .int .u8 7] 5 (0, 0))).mono ?_
  intro e w3 ⟨hb3, h3⟩
  rw [fixed3] at h3
  obtain ⟨v, he, A3, c3, hv, hc, hr3⟩ := h3
  subst hv
  subst he
  have R3 := Lib.hid hr3
  have X3 := Lib.hid ((Ext.a1 w2 _).trans' hb3)
  clear hb3 hr3 hc
  go_wp2_with fail
  refine (take_any _ 2 [1, 0] _ (by simp) (by simp) (Row.newM w3 #[.int .u8 1, .int .u8 0] 5 (0, 0))).mono ?_
  intro e w4 ⟨hb4, h4⟩
  rw [fixed4] at h4
  simp only at h4
  subst h4
  have X4 := Lib.hid ((Ext.a1 w3 _).trans' hb4)
  clear hb4
  go_wp2_with fail
  refine (text_any none _ 0 2 [] [97, 98] _ (Row.nil _ _) (by simp) (Row.newM w4 #[.int .u8 97, .int .u8 98] 5 (2, 3)) (by simp)).mono ?_
  intro e w5 ⟨v, he, hown, hb5⟩
  rw [fixed5] at hown
  subst he
  obtain ⟨A5, c5, hv, hc5⟩ := hown.shape
  subst hv
  have R5 := Lib.hid hown.row
  have HC5 := Lib.hid hc5
  have X5 := Lib.hid ((Ext.a1 w4 _).trans' hb5)
  clear hb5 hown hc5
  go_wp2_with fail
  refine (takeText_any A5 c5 [1, 2, 97, 98] _ HC5.out (by simp) R5.out).mono ?_
  intro e w6 ⟨hb6, h6⟩
  rw [fixed6] at h6
  obtain ⟨v1, v2, he, ⟨A6, c6, hv1, hc6, hr6⟩, ⟨A7, c7, hv2, hc7, hr7⟩⟩ := h6
  subst hv1
  subst hv2
  subst he
  have E5 := X5.out.trans' hb6
  have E4 := X4.out.trans' E5
  have E3 := X3.out.trans' E4
  have E2 := X2.out.trans' E3
  have t1 := text_at (n := 5) (c := c1) (R1.out.ext E2) rfl
  have t3 := text_at (n := 1) (c := c3) (R3.out.ext E4) rfl
  have t5 := text_at (n := 4) (c := c5) (R5.out.ext hb6) rfl
  have t6 := text_at (n := 2) (c := c6) hr6 rfl
  have HF := Lib.hid (B1.out.trans' E2)
  have HS := Lib.hid (size_any 256 w6 (by omega))
  rw [fixed7] at HS
  unfold Str at t1 t3 t5 t6
  clear E2 E3 E4 E5 hb6 hr6 hr7 hc6 hc7
  go_wp2_with (go_at_call 30; refine HS.out.mono ?_; rintro e w8 ⟨rfl, rfl⟩)
  go_ret
  exact ⟨rfl, HF.out⟩

end Go.Proofs.Ytpalnlcjhpkkpaa
