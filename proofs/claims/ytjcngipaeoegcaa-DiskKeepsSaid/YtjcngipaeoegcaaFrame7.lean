/-
  Frames: the document's Take.
-/
import Derived.Test.YtjcngipaeoegcaaFrame6
namespace Go.Proofs.Ytjcngipaeoegcaa
open Go.RowKit

set_option maxHeartbeats 2000000 in
set_option maxRecDepth 100000 in
theorem refFtake_any (A : Option Addr) (c : Nat) (b : List UInt8) (w : World) (hlc : b.length ≤ c) (hb : b.length ≤ 100000000) (hr : Row w A (b.map B8)) :
    Calls Try.prog 62 #[.slice A b.length c] w (RetFTake w (Frame.take b)) := by
  rw [← Frame.refTake_eq]
  have HR := Lib.hid hr
  have HT := Lib.hid (refTakeText_any A c b w hlc (by omega) hr)
  clear hr
  cases ht : Pack.takeText b with
  | none =>
    have HF := Lib.hid (show Frame.refTake b = none by unfold Frame.refTake; rw [ht])
    rw [ht] at HT
    clear ht
    go_enter Try.func62, Try.ntmps62
    go_wp2_with fail
    refine HT.out.mono ?_
    intro e w1 ⟨hb1, he⟩
    simp only at he
    subst he
    go_wp2_with fail
    go_ret3
    exact RetFTake.no HF.out hb1 rfl
  | some pr =>
    obtain ⟨p, r⟩ := pr
    have hlp : p.length ≤ b.length := by
      have := congrArg List.length (Pack.takeText_own _ _ _ ht).1
      rw [List.length_append, List.length_append] at this
      omega
    have hF0 : Frame.refTake b = if 100000 < p.length then none
        else if b.length < (Frame.sealed (Pack.text [] p)).length then none
        else if Frame.sealed (Pack.text [] p) == b.take (Frame.sealed (Pack.text [] p)).length then some (p, b.drop (Frame.sealed (Pack.text [] p)).length) else none := by
      unfold Frame.refTake
      rw [ht]
    have HF := Lib.hid hF0
    rw [ht] at HT
    clear ht hF0
    by_cases hlen : 100000 < p.length
    · rw [if_pos hlen] at HF
      go_enter Try.func62, Try.ntmps62
      go_wp2_with fail
      refine HT.out.mono ?_
      intro e w1 ⟨hb1, v1, v2, he, ⟨A6, c6, hv1, hc6, hr6⟩, ⟨A7, c7, hv2, hc7, hr7⟩⟩
      subst hv1
      subst hv2
      subst he
      clear hr6 hr7
      go_wp2_with fail
      go_ret3
      exact RetFTake.no HF.out hb1 rfl
    · rw [if_neg hlen] at HF
      have HC := Lib.hid (fun A6 c6 w => refOne_any A6 c6 p w (by omega))
      obtain ⟨S, HS⟩ : ∃ S, Hid (S = Frame.sealed (Pack.text [] p)) := ⟨_, Lib.hid rfl⟩
      rw [← HS.out] at HF HC
      go_enter Try.func62, Try.ntmps62
      go_wp2_with fail
      refine HT.out.mono ?_
      intro e wa ⟨hb1, v1, v2, he, ⟨A6, c6, hv1, hc6, hr6⟩, ⟨A7, c7, hv2, hc7, hr7⟩⟩
      subst hv1
      subst hv2
      subst he
      have E1 := Lib.hid hb1
      have P6 := Lib.hid hr6
      clear hb1 hr6 hr7 HT
      go_wp2_with fail
      refine (HC.out A6 c6 wa P6.out).mono ?_
      intro e wb ⟨v, he, hown, hb2⟩
      subst he
      obtain ⟨A8, c8, hv, hc8⟩ := hown.shape
      subst hv
      have P8 := Lib.hid hown.row
      have E2 := Lib.hid (E1.out.trans' hb2)
      have P6b := Lib.hid (P6.out.ext hb2)
      clear hown hb2 P6
      by_cases hlong : b.length < S.length
      · rw [if_pos hlong] at HF
        have hd : decide ((b.length : Int) < (S.length : Int)) = true := by simpa using hlong
        go_wp2_with fail
        apply wp_region_inv _ 14 (Nat.le_refl _) (by kernel_rfl) (by kernel_rfl) (by kernel_rfl)
          [Is (.slice A8 S.length c8), Is (.int .i64 (S.length : Int)), Is (.slice A b.length c), Is (.int .i64 (b.length : Int)), Is (.bool true), Is (.bool true), Is undef, Is undef, Is undef, Is undef, Is undef, Is undef, Is undef, Is undef, Is (.bool true)] (fun _ => True) (fun _ => false)
        case mono => exact ⟨Is.st _, Is.st _, Is.st _, Is.st _, Is.st _, Is.st _, Is.st _, Is.st _, Is.st _, Is.st _, Is.st _, Is.st _, Is.st _, Is.st _, Is.st _, True.intro⟩
        case monoS => exact fun _ _ _ h => h
        case startS => exact True.intro
        case hF => intro u; simp only [fill, Nat.reduceAdd, List.setIfInBounds_toArray, List.set_cons_succ, List.set_cons_zero]; exact rfl
        case steps =>
          refine StepsAt.cons ?_ ?_
          · intro u w1 K hE hS hU hd hK hW
            go_simp
            exact hK _ _ (Below.refl _ _) rfl
          refine StepsAt.cons ?_ ?_
          · intro u w1 K hE hS hU hd hK hW
            have d0 : u 0 = (.slice A8 S.length c8) := hd 0 rfl
            simp only [d0] at hK
            go_simp
            exact hK _ _ (Below.refl _ _) rfl
          refine StepsAt.cons ?_ ?_
          · intro u w1 K hE hS hU hd hK hW
            go_simp
            exact hK _ _ (Below.refl _ _) rfl
          refine StepsAt.cons ?_ ?_
          · intro u w1 K hE hS hU hd hK hW
            have d2 : u 2 = (.slice A b.length c) := hd 2 rfl
            simp only [d2] at hK
            go_simp
            exact hK _ _ (Below.refl _ _) rfl
          refine StepsAt.cons ?_ ?_
          · intro u w1 K hE hS hU hd hK hW
            have d1 : u 1 = (.int .i64 (S.length : Int)) := hd 1 rfl
            have d3 : u 3 = (.int .i64 (b.length : Int)) := hd 3 rfl
            simp only [d1, d3] at hK
            go_simp
            exact hK _ _ (Below.refl _ _) rfl
          refine StepsAt.cons ?_ ?_
          · intro u w1 K hE hS hU hd hK hW
            have d4 : u 4 = (.bool true) := hd 4 rfl
            simp only [d4] at hK
            go_simp
            exact hK _ _ (Below.refl _ _) rfl
          refine StepsAt.cons ?_ ?_
          · intro u w1 K hE hS hU hd hK hW
            have d5 : u 5 = (.bool true) := hd 5 rfl
            simp only [d5] at hK
            go_simp
            exact hK _ _ (Below.refl _ _) rfl
          refine StepsAt.cons ?_ ?_
          · intro u w1 K hE hS hU hd hK hW
            have d5 : u 5 = (.bool true) := hd 5 rfl
            have d6 : u 6 = undef := hd 6 rfl
            simp only [d5, d6] at hK
            go_simp
            exact hK _ _ (Below.refl _ _) rfl
          refine StepsAt.cons ?_ ?_
          · intro u w1 K hE hS hU hd hK hW
            have d5 : u 5 = (.bool true) := hd 5 rfl
            simp only [d5] at hK
            go_simp
            exact hK _ _ (Below.refl _ _) rfl
          refine StepsAt.cons ?_ ?_
          · intro u w1 K hE hS hU hd hK hW
            have d5 : u 5 = (.bool true) := hd 5 rfl
            simp only [d5] at hK
            go_simp
            exact hK _ _ (Below.refl _ _) rfl
          refine StepsAt.cons ?_ ?_
          · intro u w1 K hE hS hU hd hK hW
            have d5 : u 5 = (.bool true) := hd 5 rfl
            have d9 : u 9 = undef := hd 9 rfl
            simp only [d5, d9] at hK
            go_simp
            exact hK _ _ (Below.refl _ _) rfl
          refine StepsAt.cons ?_ ?_
          · intro u w1 K hE hS hU hd hK hW
            have d5 : u 5 = (.bool true) := hd 5 rfl
            have d8 : u 8 = undef := hd 8 rfl
            have d10 : u 10 = undef := hd 10 rfl
            simp only [d5, d8, d10] at hK
            go_simp
            exact hK _ _ (Below.refl _ _) rfl
          refine StepsAt.cons ?_ ?_
          · intro u w1 K hE hS hU hd hK hW
            have d5 : u 5 = (.bool true) := hd 5 rfl
            have d11 : u 11 = undef := hd 11 rfl
            simp only [d5, d11] at hK
            go_simp
            exact hK _ _ (Below.refl _ _) rfl
          refine StepsAt.cons ?_ ?_
          · intro u w1 K hE hS hU hd hK hW
            have d5 : u 5 = (.bool true) := hd 5 rfl
            have d7 : u 7 = undef := hd 7 rfl
            have d12 : u 12 = undef := hd 12 rfl
            simp only [d5, d7, d12] at hK
            go_simp
            exact hK _ _ (Below.refl _ _) rfl
          refine StepsAt.cons ?_ ?_
          · intro u w1 K hE hS hU hd hK hW
            have d5 : u 5 = (.bool true) := hd 5 rfl
            have d13 : u 13 = undef := hd 13 rfl
            simp only [d5, d13] at hK
            go_simp
            exact hK _ _ (Below.refl _ _) rfl
          exact StepsAt.nil
        case fin =>
          intro u w9 hE9 hP
          have d14 : u 14 = (.bool true) := hP 14 (by decide) (by decide)
          simp only [d14]
          have HX9 := Lib.hid (Ext.trans' E2.out hE9)
          clear hE9
          go_wp2_with fail
          go_ret3
          exact RetFTake.no HF.out HX9.out rfl
      · rw [if_neg hlong] at HF
        have hd : decide ((b.length : Int) < (S.length : Int)) = false := by simpa using hlong
        have hSc : S.length ≤ c := by omega
        have hSci : (S.length : Int) ≤ (c : Int) := by omega
        obtain ⟨X, HX⟩ : ∃ X, Hid (X = b.take S.length) := ⟨_, Lib.hid rfl⟩
        have HXl := Lib.hid (show X.length = S.length by rw [HX.out, List.length_take]; omega)
        rw [← HX.out] at HF
        obtain ⟨tb, Htb⟩ : ∃ tb, Hid ((S == X) = tb) := ⟨_, Lib.hid rfl⟩
        rw [Htb.out] at HF
        go_wp2_with fail
        apply wp_region_inv _ 14 (Nat.le_refl _) (by kernel_rfl) (by kernel_rfl) (by kernel_rfl)
          [Is (.slice A8 S.length c8), Is (.int .i64 (S.length : Int)), Is (.slice A b.length c), Is (.int .i64 (b.length : Int)), Is (.bool false), Is (.bool false), Is (.slice A8 S.length c8), Is (.string ⟨S.toArray⟩), Is (.slice A b.length c), Is (.slice A8 S.length c8), Is (.int .i64 (S.length : Int)), Is (.slice A S.length c), Is (.string ⟨X.toArray⟩), Is (.bool (!tb)), Is (.bool (!tb))] (fun _ => True) (fun _ => false)
        case mono => exact ⟨Is.st _, Is.st _, Is.st _, Is.st _, Is.st _, Is.st _, Is.st _, Is.st _, Is.st _, Is.st _, Is.st _, Is.st _, Is.st _, Is.st _, Is.st _, True.intro⟩
        case monoS => exact fun _ _ _ h => h
        case startS => exact True.intro
        case hF => intro u; simp only [fill, Nat.reduceAdd, List.setIfInBounds_toArray, List.set_cons_succ, List.set_cons_zero]; exact rfl
        case steps =>
          refine StepsAt.cons ?_ ?_
          · intro u w1 K hE hS hU hd hK hW
            go_simp
            exact hK _ _ (Below.refl _ _) rfl
          refine StepsAt.cons ?_ ?_
          · intro u w1 K hE hS hU hd hK hW
            have d0 : u 0 = (.slice A8 S.length c8) := hd 0 rfl
            simp only [d0] at hK
            go_simp
            exact hK _ _ (Below.refl _ _) rfl
          refine StepsAt.cons ?_ ?_
          · intro u w1 K hE hS hU hd hK hW
            go_simp
            exact hK _ _ (Below.refl _ _) rfl
          refine StepsAt.cons ?_ ?_
          · intro u w1 K hE hS hU hd hK hW
            have d2 : u 2 = (.slice A b.length c) := hd 2 rfl
            simp only [d2] at hK
            go_simp
            exact hK _ _ (Below.refl _ _) rfl
          refine StepsAt.cons ?_ ?_
          · intro u w1 K hE hS hU hd hK hW
            have d1 : u 1 = (.int .i64 (S.length : Int)) := hd 1 rfl
            have d3 : u 3 = (.int .i64 (b.length : Int)) := hd 3 rfl
            simp only [d1, d3] at hK
            go_simp
            exact hK _ _ (Below.refl _ _) rfl
          refine StepsAt.cons ?_ ?_
          · intro u w1 K hE hS hU hd hK hW
            have d4 : u 4 = (.bool false) := hd 4 rfl
            simp only [d4] at hK
            go_simp
            exact hK _ _ (Below.refl _ _) rfl
          refine StepsAt.cons ?_ ?_
          · intro u w1 K hE hS hU hd hK hW
            have d5 : u 5 = (.bool false) := hd 5 rfl
            simp only [d5] at hK
            go_simp
            exact hK _ _ (Below.refl _ _) rfl
          refine StepsAt.cons ?_ ?_
          · intro u w1 K hE hS hU hd hK hW
            have d5 : u 5 = (.bool false) := hd 5 rfl
            have d6 : u 6 = (.slice A8 S.length c8) := hd 6 rfl
            simp only [d5, d6] at hK
            have ht := text_at (n := S.length) (c := c8) (P8.out.ext hE) rfl
            unfold Str at ht
            go_simp
            exact hK _ _ (Below.refl _ _) rfl
          refine StepsAt.cons ?_ ?_
          · intro u w1 K hE hS hU hd hK hW
            have d5 : u 5 = (.bool false) := hd 5 rfl
            simp only [d5] at hK
            go_simp
            exact hK _ _ (Below.refl _ _) rfl
          refine StepsAt.cons ?_ ?_
          · intro u w1 K hE hS hU hd hK hW
            have d5 : u 5 = (.bool false) := hd 5 rfl
            simp only [d5] at hK
            go_simp
            exact hK _ _ (Below.refl _ _) rfl
          refine StepsAt.cons ?_ ?_
          · intro u w1 K hE hS hU hd hK hW
            have d5 : u 5 = (.bool false) := hd 5 rfl
            have d9 : u 9 = (.slice A8 S.length c8) := hd 9 rfl
            simp only [d5, d9] at hK
            go_simp
            exact hK _ _ (Below.refl _ _) rfl
          refine StepsAt.cons ?_ ?_
          · intro u w1 K hE hS hU hd hK hW
            have d5 : u 5 = (.bool false) := hd 5 rfl
            have d8 : u 8 = (.slice A b.length c) := hd 8 rfl
            have d10 : u 10 = (.int .i64 (S.length : Int)) := hd 10 rfl
            simp only [d5, d8, d10] at hK
            go_simp
            exact hK _ _ (Below.refl _ _) rfl
          refine StepsAt.cons ?_ ?_
          · intro u w1 K hE hS hU hd hK hW
            have d5 : u 5 = (.bool false) := hd 5 rfl
            have d11 : u 11 = (.slice A S.length c) := hd 11 rfl
            simp only [d5, d11] at hK
            have ht := text_at (l := X) (n := S.length) (c := c) (by rw [HX.out, List.map_take]; exact (HR.out.ext (Ext.trans' E2.out hE)).take S.length) HXl.out
            unfold Str at ht
            go_simp
            exact hK _ _ (Below.refl _ _) rfl
          refine StepsAt.cons ?_ ?_
          · intro u w1 K hE hS hU hd hK hW
            have d5 : u 5 = (.bool false) := hd 5 rfl
            have d7 : u 7 = (.string ⟨S.toArray⟩) := hd 7 rfl
            have d12 : u 12 = (.string ⟨X.toArray⟩) := hd 12 rfl
            simp only [d5, d7, d12] at hK
            go_simp
            exact hK _ _ (Below.refl _ _) (congrArg Value.bool (by rw [← Htb.out]))
          refine StepsAt.cons ?_ ?_
          · intro u w1 K hE hS hU hd hK hW
            have d5 : u 5 = (.bool false) := hd 5 rfl
            have d13 : u 13 = (.bool (!tb)) := hd 13 rfl
            simp only [d5, d13] at hK
            go_simp
            exact hK _ _ (Below.refl _ _) rfl
          exact StepsAt.nil
        case fin =>
          intro u w9 hE9 hP
          have d14 : u 14 = (.bool (!tb)) := hP 14 (by decide) (by decide)
          simp only [d14]
          have HX9 := Lib.hid (Ext.trans' E2.out hE9)
          have P6c := Lib.hid (P6b.out.ext hE9)
          clear hE9
          cases tb with
          | false =>
            go_wp2_with fail
            go_ret3
            exact RetFTake.no (by rw [HF.out]; rfl) HX9.out rfl
          | true =>
            have hcut := fun w => run_cut A b.length c S.length (by omega) (S.length : Int) rfl w
            have hrow := (HR.out.ext HX9.out).cut (k := S.length) (cap := c) (by rw [List.length_map]; exact hlc)
            obtain ⟨A9, HA9⟩ : ∃ A9, Hid (A9 = if c = S.length then A else A.map (·.add S.length)) := ⟨_, Lib.hid rfl⟩
            rw [← HA9.out] at hcut hrow
            rw [← List.map_drop] at hrow
            have HRow := Lib.hid hrow
            clear hrow
            go_wp2_with fail
            apply wp_region_inv _ 5 (Nat.le_refl _) (by kernel_rfl) (by kernel_rfl) (by kernel_rfl)
              [Is (.slice A6 p.length c6), Is (.slice A b.length c), Is (.slice A8 S.length c8), Is (.int .i64 (S.length : Int)), Is (.slice A9 (b.length - S.length) (c - S.length)), Is (.slice A6 p.length c6), Is (.slice A9 (b.length - S.length) (c - S.length)), Is (.int .i64 0)] (fun _ => True) (fun _ => false)
            case mono => exact ⟨Is.st _, Is.st _, Is.st _, Is.st _, Is.st _, Is.st _, Is.st _, Is.st _, True.intro⟩
            case monoS => exact fun _ _ _ h => h
            case startS => exact True.intro
            case hF => intro u; simp only [fill, Nat.reduceAdd, List.setIfInBounds_toArray, List.set_cons_succ, List.set_cons_zero]; exact rfl
            case steps =>
              refine StepsAt.cons ?_ ?_
              · intro u w1 K hE hS hU hd hK hW
                go_simp
                exact hK _ _ (Below.refl _ _) rfl
              refine StepsAt.cons ?_ ?_
              · intro u w1 K hE hS hU hd hK hW
                go_simp
                exact hK _ _ (Below.refl _ _) rfl
              refine StepsAt.cons ?_ ?_
              · intro u w1 K hE hS hU hd hK hW
                go_simp
                exact hK _ _ (Below.refl _ _) rfl
              refine StepsAt.cons ?_ ?_
              · intro u w1 K hE hS hU hd hK hW
                have d2 : u 2 = (.slice A8 S.length c8) := hd 2 rfl
                simp only [d2] at hK
                go_simp
                exact hK _ _ (Below.refl _ _) rfl
              refine StepsAt.cons ?_ ?_
              · intro u w1 K hE hS hU hd hK hW
                have d1 : u 1 = (.slice A b.length c) := hd 1 rfl
                have d3 : u 3 = (.int .i64 (S.length : Int)) := hd 3 rfl
                simp only [d1, d3] at hK
                go_simp
                exact hK _ _ (Below.refl _ _) rfl
              refine StepsAt.cons ?_ ?_
              · intro u w1 K hE hS hU hd hK hW
                have d0 : u 0 = (.slice A6 p.length c6) := hd 0 rfl
                simp only [d0] at hK
                go_simp
                exact hK _ _ (Below.refl _ _) rfl
              refine StepsAt.cons ?_ ?_
              · intro u w1 K hE hS hU hd hK hW
                have d4 : u 4 = (.slice A9 (b.length - S.length) (c - S.length)) := hd 4 rfl
                simp only [d4] at hK
                go_simp
                exact hK _ _ (Below.refl _ _) rfl
              refine StepsAt.cons ?_ ?_
              · intro u w1 K hE hS hU hd hK hW
                go_simp
                exact hK _ _ (Below.refl _ _) rfl
              exact StepsAt.nil
            case fin =>
              intro u w9 hE9 hP
              have d5 : u 5 = (.slice A6 p.length c6) := hP 5 (by decide) (by decide)
              have d6 : u 6 = (.slice A9 (b.length - S.length) (c - S.length)) := hP 6 (by decide) (by decide)
              have d7 : u 7 = (.int .i64 0) := hP 7 (by decide) (by decide)
              simp only [d5, d6, d7]
              have HY9 := Lib.hid hE9
              clear hE9
              have hdl := List.length_drop (i := S.length) (l := b)
              have P6d := Lib.hid (P6c.out.ext HY9.out)
              have HRow9 := Lib.hid (HRow.out.ext HY9.out)
              go_wp2_with fail
              go_ret3
              refine ⟨Ext.trans' HX9.out HY9.out, ?_⟩
              rw [HF.out]
              exact ⟨_, _, rfl, ⟨_, _, rfl, hc6, P6d.out⟩, ⟨A9, c - S.length, by rw [hdl]; rfl, by rw [hdl]; omega, HRow9.out⟩⟩

end Go.Proofs.Ytjcngipaeoegcaa
