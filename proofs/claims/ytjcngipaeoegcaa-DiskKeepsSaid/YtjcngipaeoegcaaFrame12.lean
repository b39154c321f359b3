/-
  Frames: two lists of bytes that are the same; a list of few.
-/
import Derived.Test.YtjcngipaeoegcaaFrame11
namespace Go.Proofs.Ytjcngipaeoegcaa
open Go.RowKit

theorem same_step {l1 l2 : List (List UInt8)} {k : Nat} (h1 : k < l1.length) (h2 : k < l2.length) (hp : l1.take k = l2.take k) (he : l1[k] = l2[k]) : l1.take (k + 1) = l2.take (k + 1) := by
  rw [List.take_succ_eq_append_getElem h1, List.take_succ_eq_append_getElem h2, hp, he]

set_option maxHeartbeats 2000000 in
set_option maxRecDepth 100000 in
theorem same_any (A1 A2 : Option Addr) (c1 c2 : Nat) (l1 l2 : List (List UInt8)) (w : World) (hm1 : l1.length ≤ 100000000) (hm2 : l2.length ≤ 100000000) (h1 : Ls w A1 l1) (h2 : Ls w A2 l2) :
    Calls Try.prog 16 #[.slice A1 l1.length c1, .slice A2 l2.length c2] w fun e w' => e = .returned (.bool (l1 == l2)) ∧ Ext w w' := by
  have H1 := Lib.hid h1
  have H2 := Lib.hid h2
  clear h1 h2
  by_cases hl : l1.length = l2.length
  · have hd : ((l1.length : Int) != (l2.length : Int)) = false := by simp; omega
    obtain ⟨tb, Htb⟩ : ∃ tb, Hid ((l1 == l2) = tb) := ⟨_, Lib.hid rfl⟩
    rw [Htb.out]
    have HL := Lib.hid hl
    clear hl
    go_enter Try.func16, Try.ntmps16
    go_wp2_with fail
    go_loopw [5] (fun i wr => ∃ k : Nat, k ≤ l1.length ∧ i = .int .i64 (k : Int) ∧ l1.take k = l2.take k ∧ Ext w wr) (fun i _ => l1.length - (intOf i).toNat)
    case atStart => exact ⟨0, Nat.zero_le _, rfl, by simp, Below.refl _ _⟩
    case round =>
      obtain ⟨k, hk, rfl, hp, hE⟩ := hrel
      have HPk := Lib.hid hp
      have HE := Lib.hid hE
      clear hp hE
      by_cases hlt : k < l1.length
      · have hlt2 : k < l2.length := by rw [← HL.out]; exact hlt
        obtain ⟨ad1, v1, rfl, hc1, hb1⟩ := (H1.out.ext HE.out).at_ hlt
        obtain ⟨ad2, v2, rfl, hc2, hb2⟩ := (H2.out.ext HE.out).at_ hlt2
        have HS := Lib.hid (same_step hlt hlt2 HPk.out)
        obtain ⟨x1, hx1⟩ : ∃ x1, x1 = l1[k] := ⟨_, rfl⟩
        obtain ⟨x2, hx2⟩ : ∃ x2, x2 = l2[k] := ⟨_, rfl⟩
        rw [← hx1] at hb1 HS
        rw [← hx2] at hb2 HS
        have HX1 := Lib.hid hx1
        have HX2 := Lib.hid hx2
        obtain ⟨B1, d1, hv1, hd1, hr1⟩ := hb1
        obtain ⟨B2, d2, hv2, hd2, hr2⟩ := hb2
        subst hv1
        subst hv2
        have C1 := Lib.hid hc1
        have C2 := Lib.hid hc2
        have R1 := Lib.hid hr1
        have R2 := Lib.hid hr2
        have hki : (k : Int) < (l1.length : Int) := by omega
        have hki2 : (k : Int) < (l2.length : Int) := by omega
        obtain ⟨ts, Hts⟩ : ∃ ts, Hid ((x1 == x2) = ts) := ⟨_, Lib.hid rfl⟩
        clear hx1 hx2 hr1 hr2 hc1 hc2
        go_wp2_with fail
        apply wp_region_inv _ 10 (Nat.le_refl _) (by kernel_rfl) (by kernel_rfl) (by kernel_rfl)
          [Is (.slice (some ad1) l1.length c1), Is (.int .i64 (k : Int)), Is (.pointer (some (ad1.add k))), Is (.slice B1 x1.length d1), Is (.string ⟨x1.toArray⟩), Is (.slice (some ad2) l2.length c2), Is (.int .i64 (k : Int)), Is (.pointer (some (ad2.add k))), Is (.slice B2 x2.length d2), Is (.string ⟨x2.toArray⟩), Is (.bool (!ts))] (fun _ => True) (fun _ => false)
        case mono => exact ⟨Is.st _, Is.st _, Is.st _, Is.st _, Is.st _, Is.st _, Is.st _, Is.st _, Is.st _, Is.st _, Is.st _, True.intro⟩
        case monoS => exact fun _ _ _ h => h
        case startS => exact True.intro
        case hF => intro u; simp only [fill, Nat.reduceAdd, List.setIfInBounds_toArray, List.set_cons_succ, List.set_cons_zero]; exact rfl
        case steps =>
          refine StepsAt.cons ?_ ?_
          · intro u w1 K hE hS hU hd hK hW
            go_simp
            exact hK _ _ (Below.refl _ _) rfl
          refine StepsAt.cons ?_ ?_
          · intro u w1 K hE hS hU hd hK hW
            go_simp
            exact hK _ _ (Below.refl _ _) rfl
          refine StepsAt.cons ?_ ?_
          · intro u w1 K hE hS hU hd hK hW
            have d0 : u 0 = (.slice (some ad1) l1.length c1) := hd 0 rfl
            have d1 : u 1 = (.int .i64 (k : Int)) := hd 1 rfl
            simp only [d0, d1] at hK
            go_simp
            exact hK _ _ (Below.refl _ _) rfl
          refine StepsAt.cons ?_ ?_
          · intro u w1 K hE hS hU hd hK hW
            have d2 : u 2 = (.pointer (some (ad1.add k))) := hd 2 rfl
            simp only [d2] at hK
            have hc := Ext.cellAt hE C1.out
            go_simp
            exact hK _ _ (Below.refl _ _) rfl
          refine StepsAt.cons ?_ ?_
          · intro u w1 K hE hS hU hd hK hW
            have d3 : u 3 = (.slice B1 x1.length d1) := hd 3 rfl
            simp only [d3] at hK
            have ht := text_at (n := x1.length) (c := d1) (R1.out.ext hE) rfl
            unfold Str at ht
            go_simp
            exact hK _ _ (Below.refl _ _) rfl
          refine StepsAt.cons ?_ ?_
          · intro u w1 K hE hS hU hd hK hW
            go_simp
            exact hK _ _ (Below.refl _ _) rfl
          refine StepsAt.cons ?_ ?_
          · intro u w1 K hE hS hU hd hK hW
            go_simp
            exact hK _ _ (Below.refl _ _) rfl
          refine StepsAt.cons ?_ ?_
          · intro u w1 K hE hS hU hd hK hW
            have d5 : u 5 = (.slice (some ad2) l2.length c2) := hd 5 rfl
            have d6 : u 6 = (.int .i64 (k : Int)) := hd 6 rfl
            simp only [d5, d6] at hK
            go_simp
            exact hK _ _ (Below.refl _ _) rfl
          refine StepsAt.cons ?_ ?_
          · intro u w1 K hE hS hU hd hK hW
            have d7 : u 7 = (.pointer (some (ad2.add k))) := hd 7 rfl
            simp only [d7] at hK
            have hc := Ext.cellAt hE C2.out
            go_simp
            exact hK _ _ (Below.refl _ _) rfl
          refine StepsAt.cons ?_ ?_
          · intro u w1 K hE hS hU hd hK hW
            have d8 : u 8 = (.slice B2 x2.length d2) := hd 8 rfl
            simp only [d8] at hK
            have ht := text_at (n := x2.length) (c := d2) (R2.out.ext hE) rfl
            unfold Str at ht
            go_simp
            exact hK _ _ (Below.refl _ _) rfl
          refine StepsAt.cons ?_ ?_
          · intro u w1 K hE hS hU hd hK hW
            have d4 : u 4 = (.string ⟨x1.toArray⟩) := hd 4 rfl
            have d9 : u 9 = (.string ⟨x2.toArray⟩) := hd 9 rfl
            simp only [d4, d9] at hK
            go_simp
            exact hK _ _ (Below.refl _ _) (congrArg Value.bool (by rw [← Hts.out]))
          exact StepsAt.nil
        case fin =>
          intro u w9 hE9 hP
          have d10 : u 10 = (.bool (!ts)) := hP 10 (by decide) (by decide)
          simp only [d10]
          have HX9 := Lib.hid (HE.out.trans' hE9)
          clear hE9
          cases ts with
          | false =>
            go_wp2_with fail
            go_ret
            refine ⟨?_, HX9.out⟩
            have : tb = false := by
              rw [← Htb.out]
              have h := Hts.out
              rw [beq_eq_false_iff_ne] at h ⊢
              intro e
              apply h
              rw [HX1.out, HX2.out]
              subst e
              rfl
            rw [this]
            rfl
          | true =>
            go_wp2_with fail
            go_roundw
            case rel => exact ⟨k + 1, by omega, by go_num, HS.out (by simpa using Hts.out), HX9.out⟩
            case measure => simp [intOf]; omega
      · obtain rfl : k = l1.length := by omega
        go_wp2_with fail
        go_ret
        refine ⟨?_, HE.out⟩
        have : tb = true := by
          rw [← Htb.out]
          have h := HPk.out
          rw [List.take_length, HL.out, List.take_length] at h
          simp [h]
        rw [this]
        rfl
  · have hd : ((l1.length : Int) != (l2.length : Int)) = true := by simp; omega
    have hne : (l1 == l2) = false := by
      rw [beq_eq_false_iff_ne]
      intro e
      exact hl (by rw [e])
    rw [hne]
    go_enter Try.func16, Try.ntmps16
    go_wp2_with fail
    go_ret
    exact ⟨rfl, Below.refl _ _⟩

def few (l : List (List UInt8)) : Bool := l.all (fun x => decide (x.length ≤ 1000)) && decide (l.length ≤ 100)

end Go.Proofs.Ytjcngipaeoegcaa
