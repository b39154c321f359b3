/-
  The fixed calls on frames answer true.
-/
import Derived.Test.YtpalnlcjhpkkpaaFrame10
import Derived.Test.YtpalnlcjhpkkpaaKeep
import Derived.Test.YtpalnlcjhpkkpaaAwake5
namespace Go.Proofs.Ytpalnlcjhpkkpaa
open Go.RowKit

theorem rt22 : RowTy Try.prog 22 5 := ⟨Try.underlying22, by obtain ⟨i, hi, hz, hs, hb⟩ := info5; exact ⟨i, _, _, hi, hz, hs, hb, rfl, by decide⟩⟩
abbrev fixedF : List UInt8 := [1, 2, 97, 98, 150, 237, 142, 201]
theorem fixed61 : Frame.put [] [97, 98] = some fixedF := by decide +kernel
theorem fixed62 : Frame.take (fixedF ++ [7]) = some ([97, 98], [7]) := by decide +kernel
theorem fixed63 : Frame.all (fixedF ++ fixedF) = ([[97, 98], [97, 98]], []) := by decide +kernel
theorem fixed64 : Frame.take [0, 0, 0, 0, 0] = none := by decide +kernel
theorem fixed65 (a : Option Addr) : Crc.sum (joined [(a, 4, [1, 2, 97, 98])]) = 3381587350 := by
  show Crc.sum [1, 2, 97, 98] = _
  decide +kernel
theorem fixed66 : bytesV 3381587350 = #[.int .u8 150, .int .u8 237, .int .u8 142, .int .u8 201] := by
  simp [bytesV, tab, List.range_succ, bytesF]

set_option maxRecDepth 100000 in
set_option maxHeartbeats 2000000 in
theorem awake6_any (w : World) : Calls Try.prog 34 #[] w fun e w' => e = .returned (.bool true) ∧ Ext w w' := by
  have kc1 := bytes_const1 22 5 Try.underlying22 Try.underlying5
  go_enter Try.func34, Try.ntmps34
  go_wp2_with fail
  refine (fput_any none _ 0 2 [] [97, 98] _ (by simp) (by simp) (Row.nil _ _) (Row.newM w #[.int .u8 97, .int .u8 98] 5 (2, 3))).mono ?_
  intro e w1 ⟨hb1, h1⟩
  rw [fixed61] at h1
  obtain ⟨v, he, hown⟩ := h1
  subst he
  obtain ⟨A1, c1, hv, hc1⟩ := hown.shape
  subst hv
  have B1 := Lib.hid (Ext.trans' (Ext.a1 w _) hb1)
  have HO1 := Lib.hid hown
  have HB := Lib.hid hb1.size
  clear hown hb1 hc1
  go_wp2_with (at_builtin; go_must (refine wpList_append_bytes_keep (l2 := [7]) rt22 rfl (.tmp 19) (.tmp 20) rfl (HO1.out.ext (Ext.a1 _ _)) rfl rfl rfl (Row.newM w1 #[.int .u8 7] 5 (0, 0)) (by simp) (by have := HB.out; simp at this ⊢; omega) ?_); intro A2 c2 w2 hown2 hkeep2 hg2; have HO2 := Lib.hid hown2; have HK2 := Lib.hid hkeep2; have HE2 := Lib.hid (show Ext w w2 from Below.grown (B1.out.alloc' _) hg2 (by have := B1.out.size; simp; omega) (fun k e => by have := ((HO1.out.ext (Ext.a1 w1 (.cells #[.int .u8 7] 5))).block k e).1; simp at this; omega)); clear hown2 hkeep2 hg2)
  refine (ftake_any A2 c2 (fixedF ++ [7]) w2 (by obtain ⟨A, c, e, h⟩ := HO2.out.shape; injection e with _ _ e; subst e; exact h) (by simp) HO2.out.row).mono ?_
  intro e w3 ⟨hb3, h3⟩
  rw [fixed62] at h3
  obtain ⟨v1, v2, he, ⟨A6, c6, hv1, hc6, hr6⟩, ⟨A7, c7, hv2, hc7, hr7⟩⟩ := h3
  subst hv1
  subst hv2
  subst he
  have HO3 := Lib.hid (HK2.out.ext hb3)
  have HE3 := Lib.hid (HE2.out.trans' hb3)
  have HR6 := Lib.hid hr6
  have HR7 := Lib.hid hr7
  clear hb3 hr6 hr7 hc6 hc7
  go_wp2_with first
    | (at_builtin; refine wpList_append_bytes_keep (l := []) (l2 := fixedF) (B := w3.heap.size) rt22 rfl (.tmp 27) (.tmp 28) rfl (Own.new w3 w3.heap.size (Nat.le_refl _) [] 0 rfl (by simp) #[] rfl) rfl rfl rfl (HO3.out.ext (Ext.a1 w3 _)).row (by simp) (by simp) ?_; intro A4 c4 w4 hown4 _ hg4; have hb4 := (Own.new w3 w3.heap.size (Nat.le_refl _) [] 0 rfl (by simp) #[] rfl).below hg4 (Ext.a1 w3 _) (by simp) (Nat.le_refl _); have HO4 := Lib.hid hown4; have HB4 := Lib.hid hb4; clear hown4 hg4 hb4)
    | (at_builtin; refine wpList_append_bytes_keep (l2 := fixedF) rt22 rfl (.tmp 29) (.tmp 30) rfl HO4.out rfl rfl rfl (HO3.out.ext HB4.out).row (by simp) HB4.out.size ?_; intro A5 c5 w5 hown5 _ hg5; have hb5 := HO4.out.below hg5 HB4.out HB4.out.size (Nat.le_refl _); have HO5 := Lib.hid hown5; have HB5 := Lib.hid hb5; clear hown5 hg5 hb5)
  refine (fall_any A5 c5 (fixedF ++ fixedF) w5 (by obtain ⟨A, c, e, h⟩ := HO5.out.shape; injection e with _ _ e; subst e; exact h) (by simp) HO5.out.row).mono ?_
  rw [fixed63]
  intro e w6 ⟨v, he, hl6, hb6⟩
  obtain ⟨A8, c8, hv, hc8⟩ := hl6.shape
  subst hv
  subst he
  have HO6 := Lib.hid ((HO3.out.ext HB5.out).ext hb6)
  have HE6 := Lib.hid ((HE3.out.trans' HB5.out).trans' hb6)
  have HR66 := Lib.hid ((HR6.out.ext HB5.out).ext hb6)
  have HR76 := Lib.hid ((HR7.out.ext HB5.out).ext hb6)
  clear hl6 hb6 hc8
  go_wp2_with fail
  refine (ftake_any _ 5 [0, 0, 0, 0, 0] _ (by simp) (by simp) (Row.newM w6 #[.int .u8 0, .int .u8 0, .int .u8 0, .int .u8 0, .int .u8 0] 5 (0, 0))).mono ?_
  intro e w7 ⟨hb7, h7⟩
  rw [fixed64] at h7
  simp only at h7
  subst h7
  have hb67 := Ext.trans' (Ext.a1 w6 _) hb7
  have HO7 := Lib.hid (HO6.out.ext hb67)
  have HE7 := Lib.hid (HE6.out.trans' hb67)
  have HR67 := Lib.hid (HR66.out.ext hb67)
  have HR77 := Lib.hid (HR76.out.ext hb67)
  clear hb7 hb67
  go_wp2_with fail
  have hP := Parts.one (A := some ⟨w7.heap.size, 0, none⟩) (cap := 4) (n := 4) (l := [1, 2, 97, 98]) rfl (Row.newM w7 #[.int .u8 1, .int .u8 2, .int .u8 97, .int .u8 98] 5 (4, 5)) (by simp) 22
  rw [World.size_alloc] at hP
  refine (sum_any _ 1 _ _ (by simp) hP).mono ?_
  intro e w8 ⟨he, hb8⟩
  rw [fixed65] at he
  subst he
  clear hP
  have hb78 := Ext.trans' ((Ext.a1 w7 _).alloc' _) hb8
  have HO8 := Lib.hid (HO7.out.ext hb78)
  have HE8 := Lib.hid (HE7.out.trans' hb78)
  have HR68 := Lib.hid (HR67.out.ext hb78)
  have HR78 := Lib.hid (HR77.out.ext hb78)
  clear hb8 hb78
  go_wp2_with fail
  refine (bytes_any 3381587350 _).mono ?_
  intro e w9 ⟨he, hb9⟩
  rw [fixed66] at he
  subst he
  have HO9 := Lib.hid (HO8.out.ext hb9)
  have HE9 := Lib.hid (HE8.out.trans' hb9)
  have HR69 := Lib.hid (HR68.out.ext hb9)
  have HR79 := Lib.hid (HR78.out.ext hb9)
  clear hb9
  have HW := Lib.hid (Ext.a1 w9 (.cells #[.int .u8 150, .int .u8 237, .int .u8 142, .int .u8 201] 25))
  go_wp2_with fail
  obtain ⟨wx, hwx⟩ : ∃ wx, w9.alloc (.cells #[.int .u8 150, .int .u8 237, .int .u8 142, .int .u8 201] 25) = wx := ⟨_, rfl⟩
  rw [hwx] at HW ⊢
  have HX := Lib.hid (show Row wx (some ⟨w9.heap.size, 0, none⟩) (List.map B8 [150, 237, 142, 201]) by rw [← hwx]; exact Row.newM w9 #[.int .u8 150, .int .u8 237, .int .u8 142, .int .u8 201] 25 (0, 0))
  clear hwx
  apply wp_region_inv _ 41 (Nat.le_refl _) (by kernel_rfl) (by kernel_rfl) (by kernel_rfl)
    [Is (.slice A1 8 c1), Is (.string ⟨#[1, 2, 97, 98, 150, 237, 142, 201]⟩), Is (.slice (some ⟨w9.heap.size, 0, none⟩) 4 4), Is (.string ⟨#[150, 237, 142, 201]⟩), Is (.string ⟨#[1, 2, 97, 98, 150, 237, 142, 201]⟩), Is (.bool true), Is (.bool true), Is (.int .i64 0), Is (.bool true), Is (.bool true), Is (.bool true), Is (.slice A6 2 c6), Is (.string ⟨#[97, 98]⟩), Is (.bool true), Is (.bool true), Is (.bool true), Is (.slice A7 1 c7), Is (.string ⟨#[7]⟩), Is (.bool true), Is (.bool true), Is (.bool true), Is (.int .i64 0), Is (.bool true), Is (.bool true), Is (.bool true), Is (.slice A8 2 c8), Is (.int .i64 2), Is (.bool true), Is (.bool true), Is (.bool true), Is (.int .i64 16), Is (.bool true), Is (.bool true), Is (.bool true), Is (.int .i64 60), Is (.bool true), Is (.bool true), Is (.bool true), Is (.bool true), Is (.bool true), Is (.bool true), Is (.bool true)] (fun _ => True) (fun _ => false)
  case mono => exact ⟨Is.st _, Is.st _, Is.st _, Is.st _, Is.st _, Is.st _, Is.st _, Is.st _, Is.st _, Is.st _, Is.st _, Is.st _, Is.st _, Is.st _, Is.st _, Is.st _, Is.st _, Is.st _, Is.st _, Is.st _, Is.st _, Is.st _, Is.st _, Is.st _, Is.st _, Is.st _, Is.st _, Is.st _, Is.st _, Is.st _, Is.st _, Is.st _, Is.st _, Is.st _, Is.st _, Is.st _, Is.st _, Is.st _, Is.st _, Is.st _, Is.st _, Is.st _, True.intro⟩
  case monoS => exact fun _ _ _ h => h
  case startS => exact True.intro
  case hF => intro u; simp only [fill, Nat.reduceAdd, List.setIfInBounds_toArray, List.set_cons_succ, List.set_cons_zero]; exact rfl
  case steps =>
    refine StepsAt.cons ?_ ?_
    · intro u w1 K hE hS hU hd hK hW
      go_simp
      exact hK _ _ (Below.refl _ _) rfl
    refine StepsAt.cons ?_ ?_
    · intro u w1 K hE hS hU hd hK hW
      have d0 : u 0 = (.slice A1 8 c1) := hd 0 rfl
      simp only [d0] at hK
      have ht := text_at (n := 8) (c := c1) (l := fixedF) ((HO9.out.ext (Ext.trans' HW.out hE)).row) rfl
      unfold Str at ht
      go_simp
      exact hK _ _ (Below.refl _ _) rfl
    refine StepsAt.cons ?_ ?_
    · intro u w1 K hE hS hU hd hK hW
      go_simp
      exact hK _ _ (Below.refl _ _) rfl
    refine StepsAt.cons ?_ ?_
    · intro u w1 K hE hS hU hd hK hW
      have d2 : u 2 = (.slice (some ⟨w9.heap.size, 0, none⟩) 4 4) := hd 2 rfl
      simp only [d2] at hK
      have ht := text_at (n := 4) (c := 4) (l := [150, 237, 142, 201]) (HX.out.ext hE) rfl
      unfold Str at ht
      go_simp
      exact hK _ _ (Below.refl _ _) rfl
    refine StepsAt.cons ?_ ?_
    · intro u w1 K hE hS hU hd hK hW
      have d3 : u 3 = (.string ⟨#[150, 237, 142, 201]⟩) := hd 3 rfl
      simp only [d3] at hK
      go_simp
      exact hK _ _ (Below.refl _ _) rfl
    refine StepsAt.cons ?_ ?_
    · intro u w1 K hE hS hU hd hK hW
      have d1 : u 1 = (.string ⟨#[1, 2, 97, 98, 150, 237, 142, 201]⟩) := hd 1 rfl
      have d4 : u 4 = (.string ⟨#[1, 2, 97, 98, 150, 237, 142, 201]⟩) := hd 4 rfl
      simp only [d1, d4] at hK
      go_simp
      exact hK _ _ (Below.refl _ _) rfl
    refine StepsAt.cons ?_ ?_
    · intro u w1 K hE hS hU hd hK hW
      have d5 : u 5 = (.bool true) := hd 5 rfl
      simp only [d5] at hK
      go_simp
      exact hK _ _ (Below.refl _ _) rfl
    refine StepsAt.cons ?_ ?_
    · intro u w1 K hE hS hU hd hK hW
      have d6 : u 6 = (.bool true) := hd 6 rfl
      simp only [d6] at hK
      go_simp
      exact hK _ _ (Below.refl _ _) rfl
    refine StepsAt.cons ?_ ?_
    · intro u w1 K hE hS hU hd hK hW
      have d6 : u 6 = (.bool true) := hd 6 rfl
      have d7 : u 7 = (.int .i64 0) := hd 7 rfl
      simp only [d6, d7] at hK
      go_simp
      exact hK _ _ (Below.refl _ _) rfl
    refine StepsAt.cons ?_ ?_
    · intro u w1 K hE hS hU hd hK hW
      have d6 : u 6 = (.bool true) := hd 6 rfl
      have d8 : u 8 = (.bool true) := hd 8 rfl
      simp only [d6, d8] at hK
      go_simp
      exact hK _ _ (Below.refl _ _) rfl
    refine StepsAt.cons ?_ ?_
    · intro u w1 K hE hS hU hd hK hW
      have d9 : u 9 = (.bool true) := hd 9 rfl
      simp only [d9] at hK
      go_simp
      exact hK _ _ (Below.refl _ _) rfl
    refine StepsAt.cons ?_ ?_
    · intro u w1 K hE hS hU hd hK hW
      have d10 : u 10 = (.bool true) := hd 10 rfl
      simp only [d10] at hK
      go_simp
      exact hK _ _ (Below.refl _ _) rfl
    refine StepsAt.cons ?_ ?_
    · intro u w1 K hE hS hU hd hK hW
      have d10 : u 10 = (.bool true) := hd 10 rfl
      have d11 : u 11 = (.slice A6 2 c6) := hd 11 rfl
      simp only [d10, d11] at hK
      have ht := text_at (n := 2) (c := c6) (l := [97, 98]) (HR69.out.ext (Ext.trans' HW.out hE)) rfl
      unfold Str at ht
      go_simp
      exact hK _ _ (Below.refl _ _) rfl
    refine StepsAt.cons ?_ ?_
    · intro u w1 K hE hS hU hd hK hW
      have d10 : u 10 = (.bool true) := hd 10 rfl
      have d12 : u 12 = (.string ⟨#[97, 98]⟩) := hd 12 rfl
      simp only [d10, d12] at hK
      go_simp
      exact hK _ _ (Below.refl _ _) rfl
    refine StepsAt.cons ?_ ?_
    · intro u w1 K hE hS hU hd hK hW
      have d10 : u 10 = (.bool true) := hd 10 rfl
      have d13 : u 13 = (.bool true) := hd 13 rfl
      simp only [d10, d13] at hK
      go_simp
      exact hK _ _ (Below.refl _ _) rfl
    refine StepsAt.cons ?_ ?_
    · intro u w1 K hE hS hU hd hK hW
      have d14 : u 14 = (.bool true) := hd 14 rfl
      simp only [d14] at hK
      go_simp
      exact hK _ _ (Below.refl _ _) rfl
    refine StepsAt.cons ?_ ?_
    · intro u w1 K hE hS hU hd hK hW
      have d15 : u 15 = (.bool true) := hd 15 rfl
      simp only [d15] at hK
      go_simp
      exact hK _ _ (Below.refl _ _) rfl
    refine StepsAt.cons ?_ ?_
    · intro u w1 K hE hS hU hd hK hW
      have d15 : u 15 = (.bool true) := hd 15 rfl
      have d16 : u 16 = (.slice A7 1 c7) := hd 16 rfl
      simp only [d15, d16] at hK
      have ht := text_at (n := 1) (c := c7) (l := [7]) (HR79.out.ext (Ext.trans' HW.out hE)) rfl
      unfold Str at ht
      go_simp
      exact hK _ _ (Below.refl _ _) rfl
    refine StepsAt.cons ?_ ?_
    · intro u w1 K hE hS hU hd hK hW
      have d15 : u 15 = (.bool true) := hd 15 rfl
      have d17 : u 17 = (.string ⟨#[7]⟩) := hd 17 rfl
      simp only [d15, d17] at hK
      go_simp
      exact hK _ _ (Below.refl _ _) rfl
    refine StepsAt.cons ?_ ?_
    · intro u w1 K hE hS hU hd hK hW
      have d15 : u 15 = (.bool true) := hd 15 rfl
      have d18 : u 18 = (.bool true) := hd 18 rfl
      simp only [d15, d18] at hK
      go_simp
      exact hK _ _ (Below.refl _ _) rfl
    refine StepsAt.cons ?_ ?_
    · intro u w1 K hE hS hU hd hK hW
      have d19 : u 19 = (.bool true) := hd 19 rfl
      simp only [d19] at hK
      go_simp
      exact hK _ _ (Below.refl _ _) rfl
    refine StepsAt.cons ?_ ?_
    · intro u w1 K hE hS hU hd hK hW
      have d20 : u 20 = (.bool true) := hd 20 rfl
      simp only [d20] at hK
      go_simp
      exact hK _ _ (Below.refl _ _) rfl
    refine StepsAt.cons ?_ ?_
    · intro u w1 K hE hS hU hd hK hW
      have d20 : u 20 = (.bool true) := hd 20 rfl
      have d21 : u 21 = (.int .i64 0) := hd 21 rfl
      simp only [d20, d21] at hK
      go_simp
      exact hK _ _ (Below.refl _ _) rfl
    refine StepsAt.cons ?_ ?_
    · intro u w1 K hE hS hU hd hK hW
      have d20 : u 20 = (.bool true) := hd 20 rfl
      have d22 : u 22 = (.bool true) := hd 22 rfl
      simp only [d20, d22] at hK
      go_simp
      exact hK _ _ (Below.refl _ _) rfl
    refine StepsAt.cons ?_ ?_
    · intro u w1 K hE hS hU hd hK hW
      have d23 : u 23 = (.bool true) := hd 23 rfl
      simp only [d23] at hK
      go_simp
      exact hK _ _ (Below.refl _ _) rfl
    refine StepsAt.cons ?_ ?_
    · intro u w1 K hE hS hU hd hK hW
      have d24 : u 24 = (.bool true) := hd 24 rfl
      simp only [d24] at hK
      go_simp
      exact hK _ _ (Below.refl _ _) rfl
    refine StepsAt.cons ?_ ?_
    · intro u w1 K hE hS hU hd hK hW
      have d24 : u 24 = (.bool true) := hd 24 rfl
      have d25 : u 25 = (.slice A8 2 c8) := hd 25 rfl
      simp only [d24, d25] at hK
      go_simp
      exact hK _ _ (Below.refl _ _) rfl
    refine StepsAt.cons ?_ ?_
    · intro u w1 K hE hS hU hd hK hW
      have d24 : u 24 = (.bool true) := hd 24 rfl
      have d26 : u 26 = (.int .i64 2) := hd 26 rfl
      simp only [d24, d26] at hK
      go_simp
      exact hK _ _ (Below.refl _ _) rfl
    refine StepsAt.cons ?_ ?_
    · intro u w1 K hE hS hU hd hK hW
      have d24 : u 24 = (.bool true) := hd 24 rfl
      have d27 : u 27 = (.bool true) := hd 27 rfl
      simp only [d24, d27] at hK
      go_simp
      exact hK _ _ (Below.refl _ _) rfl
    refine StepsAt.cons ?_ ?_
    · intro u w1 K hE hS hU hd hK hW
      have d28 : u 28 = (.bool true) := hd 28 rfl
      simp only [d28] at hK
      go_simp
      exact hK _ _ (Below.refl _ _) rfl
    refine StepsAt.cons ?_ ?_
    · intro u w1 K hE hS hU hd hK hW
      have d29 : u 29 = (.bool true) := hd 29 rfl
      simp only [d29] at hK
      go_simp
      exact hK _ _ (Below.refl _ _) rfl
    refine StepsAt.cons ?_ ?_
    · intro u w1 K hE hS hU hd hK hW
      have d29 : u 29 = (.bool true) := hd 29 rfl
      have d30 : u 30 = (.int .i64 16) := hd 30 rfl
      simp only [d29, d30] at hK
      go_simp
      exact hK _ _ (Below.refl _ _) rfl
    refine StepsAt.cons ?_ ?_
    · intro u w1 K hE hS hU hd hK hW
      have d29 : u 29 = (.bool true) := hd 29 rfl
      have d31 : u 31 = (.bool true) := hd 31 rfl
      simp only [d29, d31] at hK
      go_simp
      exact hK _ _ (Below.refl _ _) rfl
    refine StepsAt.cons ?_ ?_
    · intro u w1 K hE hS hU hd hK hW
      have d32 : u 32 = (.bool true) := hd 32 rfl
      simp only [d32] at hK
      go_simp
      exact hK _ _ (Below.refl _ _) rfl
    refine StepsAt.cons ?_ ?_
    · intro u w1 K hE hS hU hd hK hW
      have d33 : u 33 = (.bool true) := hd 33 rfl
      simp only [d33] at hK
      go_simp
      exact hK _ _ (Below.refl _ _) rfl
    refine StepsAt.cons ?_ ?_
    · intro u w1 K hE hS hU hd hK hW
      have d33 : u 33 = (.bool true) := hd 33 rfl
      have d34 : u 34 = (.int .i64 60) := hd 34 rfl
      simp only [d33, d34] at hK
      go_simp
      exact hK _ _ (Below.refl _ _) rfl
    refine StepsAt.cons ?_ ?_
    · intro u w1 K hE hS hU hd hK hW
      have d33 : u 33 = (.bool true) := hd 33 rfl
      have d35 : u 35 = (.bool true) := hd 35 rfl
      simp only [d33, d35] at hK
      go_simp
      exact hK _ _ (Below.refl _ _) rfl
    refine StepsAt.cons ?_ ?_
    · intro u w1 K hE hS hU hd hK hW
      have d36 : u 36 = (.bool true) := hd 36 rfl
      simp only [d36] at hK
      go_simp
      exact hK _ _ (Below.refl _ _) rfl
    refine StepsAt.cons ?_ ?_
    · intro u w1 K hE hS hU hd hK hW
      have d37 : u 37 = (.bool true) := hd 37 rfl
      simp only [d37] at hK
      go_simp
      exact hK _ _ (Below.refl _ _) rfl
    refine StepsAt.cons ?_ ?_
    · intro u w1 K hE hS hU hd hK hW
      have d38 : u 38 = (.bool true) := hd 38 rfl
      simp only [d38] at hK
      go_simp
      exact hK _ _ (Below.refl _ _) rfl
    refine StepsAt.cons ?_ ?_
    · intro u w1 K hE hS hU hd hK hW
      have d39 : u 39 = (.bool true) := hd 39 rfl
      simp only [d39] at hK
      go_simp
      exact hK _ _ (Below.refl _ _) rfl
    refine StepsAt.cons ?_ ?_
    · intro u w1 K hE hS hU hd hK hW
      have d40 : u 40 = (.bool true) := hd 40 rfl
      simp only [d40] at hK
      go_simp
      exact hK _ _ (Below.refl _ _) rfl
    exact StepsAt.nil
  case fin =>
    intro u w9 hE9 hP
    have d41 : u 41 = (.bool true) := hP 41 (by decide) (by decide)
    simp only [d41]
    go_wp2_with fail
    go_ret
    exact ⟨rfl, (HE9.out.trans' HW.out).trans' hE9⟩

end Go.Proofs.Ytpalnlcjhpkkpaa
