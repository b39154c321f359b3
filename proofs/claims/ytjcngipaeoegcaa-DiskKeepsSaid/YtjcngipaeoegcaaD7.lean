/-
  Disks: the document's way to parse a head.
-/
import Derived.Test.YtjcngipaeoegcaaD6
import Derived.Test.YtjcngipaeoegcaaNoBm
namespace Go.Proofs.Ytjcngipaeoegcaa
open Go.RowKit

def RetRefParse (w : World) (r : Option (Nat × List (List UInt8))) (e : Ending) (w' : World) : Prop :=
  Ext w w' ∧ match r with
  | some (g, rs) => ∃ v, e = .returned (.tuple #[.int .i64 (g : Int), v]) ∧ LsN w' w.heap.size v rs
  | none => e = .returned (.tuple #[.int .i64 0, .slice none 0 0])

set_option maxHeartbeats 4000000 in
set_option maxRecDepth 100000 in
theorem refParse_any (A : Option Addr) (c : Nat) (b : List UInt8) (w : World) (hlc : b.length ≤ c) (hb : b.length ≤ 100000000) (hr : Row w A (b.map B8)) :
    Calls Try.prog 55 #[.slice A b.length c] w (RetRefParse w (Disk.parse b)) := by
  have HT := Lib.hid (refTake_any A c b w hlc (by omega) hr)
  clear hr
  cases ht : Pack.take b with
  | none =>
    have HF := Lib.hid (show Disk.parse b = none by unfold Disk.parse; rw [ht])
    rw [ht] at HT
    rw [HF.out]
    clear ht
    go_enter Try.func55, Try.ntmps55
    go_wp2_with fail
    refine HT.out.mono ?_
    rintro e w1 ⟨hb1, rfl⟩
    go_wp2_with fail
    go_ret2
    exact ⟨hb1, rfl⟩
  | some p =>
    obtain ⟨g, b1⟩ := p
    obtain ⟨hbl, hgm⟩ := take_bound b g b1 ht
    rw [ht] at HT
    by_cases hg : g < 1 ∨ 1000000 < g
    · have HF := Lib.hid (show Disk.parse b = none by unfold Disk.parse; rw [ht]; simp only; rw [if_pos hg])
      rw [HF.out]
      clear ht
      by_cases hg1 : g < 1
      · have hd : decide ((g : Int) < 1) = true := by simp; omega
        clear hg
        go_enter Try.func55, Try.ntmps55
        go_wp2_with fail
        refine HT.out.mono ?_
        rintro e w1 ⟨hb1, v, rfl, A1, c1, hv, hc1, hr1⟩
        subst hv
        clear hr1
        go_wp2_with fail
        go_ret2
        exact ⟨hb1, rfl⟩
      · have hd : decide ((g : Int) < 1) = false := by simp; omega
        have hd2 : decide ((1000000 : Int) < (g : Int)) = true := by simp; omega
        clear hg
        go_enter Try.func55, Try.ntmps55
        go_wp2_with fail
        refine HT.out.mono ?_
        rintro e w1 ⟨hb1, v, rfl, A1, c1, hv, hc1, hr1⟩
        subst hv
        clear hr1
        go_wp2_with fail
        go_ret2
        exact ⟨hb1, rfl⟩
    · have HF0 := Lib.hid (show Disk.parse b = match Pack.take b1 with | none => none | some (m, b2) => (Disk.parseTexts m b2).map fun rs => (g, rs) by unfold Disk.parse; rw [ht]; simp only; rw [if_neg hg]; rfl)
      have hd : decide ((g : Int) < 1) = false := by simp; omega
      have hd2 : decide ((1000000 : Int) < (g : Int)) = false := by simp; omega
      clear ht hg
      cases ht1 : Pack.take b1 with
      | none =>
        rw [ht1] at HF0
        rw [HF0.out]
        go_enter Try.func55, Try.ntmps55
        go_wp2_with fail
        refine HT.out.mono ?_
        rintro e w1 ⟨hb1, v, rfl, A1, c1, hv, hc1, hr1⟩
        subst hv
        have HT1 := refTake_any A1 c1 b1 w1 hc1 (by omega) hr1
        rw [ht1] at HT1
        have HT1 := Lib.hid HT1
        clear hr1
        go_wp2_with fail
        refine HT1.out.mono ?_
        rintro e w2 ⟨hb2, rfl⟩
        go_wp2_with fail
        go_ret2
        exact ⟨hb1.trans' hb2, rfl⟩
      | some p1 =>
        obtain ⟨m, b2⟩ := p1
        obtain ⟨hbl2, hgm2⟩ := take_bound b1 m b2 ht1
        rw [ht1] at HF0
        simp only at HF0
        rw [HF0.out]
        go_enter Try.func55, Try.ntmps55
        go_wp2_with fail
        refine HT.out.mono ?_
        rintro e w1 ⟨hb1, v, rfl, A1, c1, hv, hc1, hr1⟩
        subst hv
        have HT1 := refTake_any A1 c1 b1 w1 hc1 (by omega) hr1
        rw [ht1] at HT1
        have HT1 := Lib.hid HT1
        clear hr1 ht1
        go_wp2_with fail
        refine HT1.out.mono ?_
        rintro e w2 ⟨hb2, v, rfl, A2, c2, hv, hc2, hr2⟩
        subst hv
        have HR2 := Lib.hid hr2
        have HE2 := Lib.hid (hb1.trans' hb2)
        clear hr2 hb1 hb2
        go_wp2_with fail
        go_loopw [8, 10, 11] (fun bv v i wr => ∃ (k : Nat) (rs : List (List UInt8)) (vs : List Value) (Av : Option Addr) (cv : Nat) (s : List UInt8), k ≤ m ∧ i = .int .i64 (k : Int) ∧ v = .slice Av rs.length cv ∧ rs.length = k ∧ Bs wr bv s ∧ s.length + k ≤ b2.length ∧
          Disk.parseTexts m b2 = (Disk.parseTexts (m - k) s).map (rs ++ ·) ∧ wr.ownsRow w.heap.size 22 1 (.slice Av rs.length cv) rs.length vs ∧ BsL wr vs rs ∧ NoB wr (.slice Av rs.length cv) ∧ Ext w wr) (fun _ _ i _ => m - (intOf i).toNat)
        case atStart => exact ⟨0, [], [], none, 0, b2, Nat.zero_le _, rfl, rfl, rfl, ⟨A2, c2, rfl, hc2, HR2.out⟩, by omega, by simp, World.ownsRow_nil _ _ _ _, BsL.nil _, NoB.nil _ _ _, HE2.out⟩
        case round =>
          obtain ⟨k, rs, vs, Av, cv, s, hk, rfl, rfl, hrk, ⟨A3, c3, hbv, hc3, hr3⟩, hs, hst, hown, hels, hnb, hE⟩ := hrel
          subst hbv
          have HST := Lib.hid hst
          have HOWN := Lib.hid hown
          have HELS := Lib.hid hels
          have HNB := Lib.hid hnb
          have HE := Lib.hid hE
          have HRK := Lib.hid hrk
          have HTT := refTakeText_any A3 c3 s wr hc3 (by omega) hr3
          clear hst hown hels hnb hE hrk
          by_cases hlt : k < m
          · cases htt : Pack.takeText s with
            | none =>
              have HPF := Lib.hid (parse_fail hlt HST.out htt)
              rw [htt] at HTT
              have HTT := Lib.hid HTT
              clear hr3
              go_wp2_with fail
              refine HTT.out.mono ?_
              rintro e w4 ⟨hb4, rfl⟩
              go_wp2_with fail
              go_ret2
              refine ⟨HE.out.trans' hb4, ?_⟩
              rw [HPF.out]
              rfl
            | some q =>
              obtain ⟨r, s2⟩ := q
              have HSTn := Lib.hid (parse_step hlt HST.out htt)
              have hsl := Disk.takeText_lt htt
              rw [htt] at HTT
              have HTT := Lib.hid HTT
              have hmany : rs.length + 1 ≤ 100000000000 := by have := HRK.out; omega
              clear hr3 htt
              go_wp2_with fail
              refine HTT.out.mono ?_
              rintro e w4 ⟨hb4, v1, v2, rfl, ⟨A5, c5, hv1, hc5, hr5⟩, A6, c6, hv2, hc6, hr6⟩
              subst hv2
              subst hv1
              have HP := Lib.hid (show Bs w4 (.slice A5 r.length c5) r from ⟨A5, c5, rfl, hc5, hr5⟩)
              have HQ := Lib.hid (show Bs w4 (.slice A6 s2.length c6) s2 from ⟨A6, c6, rfl, hc6, hr6⟩)
              have HO1 := Lib.hid (ownsRow_ext HOWN.out hb4)
              have HL1 := Lib.hid (HELS.out.ext hb4)
              have HN1 := Lib.hid (HNB.out.ext (fun g hg => (World.ownsRow.lt HOWN.out g hg).2) hb4)
              have HE1 := Lib.hid (HE.out.trans' hb4)
              have hb1s := HE1.out.size
              clear hr6 hr5 hb4
              go_wp2_with (at_builtin; go_must (refine wpList_append_noB st52 rfl (.tmp 52) (.tmp 54) rfl (HO1.out.alloc _) HL1.out.slices (HN1.out.ext (fun g hg => (World.ownsRow.lt HO1.out g hg).2) (Ext.a1 _ _)) rfl rfl (Boxed.new _ _ _).cell rfl (by intro x h; cases h) hmany (by simp; omega) ?_); intro A7 c7 w7 hown7 hg7 hnb7; have HNa := HN1.out.ext (fun g hg => (World.ownsRow.lt HO1.out g hg).2) (Ext.a1 w4 (.cells #[.slice A5 r.length c5] 22)); have HO3 := Lib.hid hown7; have HN3 := Lib.hid hnb7; have HL3 := Lib.hid (((HL1.out.ext (Ext.a1 _ _)).noB HNa hg7).snoc ((HP.out.ext (Ext.a1 _ _)).noB HNa hg7)); have HP3 := Lib.hid ((HQ.out.ext (Ext.a1 _ _)).noB HNa hg7); have HE3 := Lib.hid (Below.grown (HE1.out.alloc' _) hg7 (by simp; omega) (fun g e => (World.ownsRow.lt HO1.out g e).1)); clear hown7 hg7 hnb7 HNa)
              go_roundw
              case rel =>
                exact ⟨k + 1, rs ++ [r], vs ++ [Value.slice A5 r.length c5], A7, c7, s2, by omega, by go_num, by simp, by simp [HRK.out], HP3.out, by omega, HSTn.out, by rw [List.length_append]; exact HO3.out, HL3.out, by rw [List.length_append]; exact HN3.out, HE3.out⟩
              case measure => simp [intOf]; omega
          · obtain rfl : k = m := by omega
            have HPF := Lib.hid (parse_end HST.out)
            cases s with
            | nil =>
              clear hr3
              go_wp2_with fail
              go_ret2
              refine ⟨HE.out, ?_⟩
              rw [HPF.out]
              exact ⟨_, rfl, ⟨vs, HOWN.out, HELS.out⟩, HNB.out⟩
            | cons x s =>
              have hd4 : decide ((0 : Int) < (s.length : Int) + 1) = true := by simp
              clear hr3
              go_wp2_with fail
              go_ret2
              refine ⟨HE.out, ?_⟩
              rw [HPF.out]
              rfl

end Go.Proofs.Ytjcngipaeoegcaa
