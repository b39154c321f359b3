/-
  Disks: what stands behind the good bytes does not matter.
-/
import Derived.Test.YtjcngipaeoegcaaM4
import Derived.Test.YtjcngipaeoegcaaD23
import Derived.Test.YtjcngipaeoegcaaDStale
import Derived.Test.YtjcngipaeoegcaaRel
namespace Go.Proofs.Ytjcngipaeoegcaa
open Go.RowKit
set_option allowUnsafeReducibility true
attribute [local reducible] Rec

set_option maxRecDepth 100000 in
set_option maxHeartbeats 8000000 in
theorem stale_any (A1 : Option Addr) (c1 : Nat) (ss : List Stp) (A2 : Option Addr) (c2 : Nat) (r : List UInt8) (A3 : Option Addr) (c3 : Nat) (p : List UInt8) (w : World) (hm1 : ss.length ≤ 9223372036854775807) (h1 : InSteps w A1 ss) (hlc : r.length ≤ c2) (hr : r.length ≤ 100000000) (h2 : Row w A2 (r.map B8)) (hpc : p.length ≤ c3) (h3 : Row w A3 (p.map B8)) :
    Calls Try.prog 6 #[.slice A1 ss.length c1, .slice A2 r.length c2, .slice A3 p.length c3] w fun e w' => e = .returned (.bool true) ∧ Ext w w' := by
  have H1 := Lib.hid h1
  have H2 := Lib.hid h2
  have H3 := Lib.hid h3
  clear h1 h2 h3
  go_enter Try.func6, Try.ntmps6
  go_wp2_with fail
  refine (awake_any w).mono ?_
  rintro e w1 ⟨rfl, hb1⟩
  have HE1 := Lib.hid hb1
  clear hb1
  go_wp2_with fail
  refine (fall_any A2 c2 r w1 hlc hr (H2.out.ext HE1.out)).mono ?_
  rintro e w2 ⟨vo, rfl, hown, hb2⟩
  obtain ⟨Ao, co, rfl, hco⟩ := hown.shape
  have HE2 := Lib.hid (HE1.out.trans' hb2)
  have HAll := Lib.hid (show ∀ x, (Frame.all r).1 = x → x = [] → Frame.take r = none from fun x e h => Disk.take_of_all (e.trans h))
  obtain ⟨some9, Hso⟩ : ∃ s, Hid ((Frame.all r).1 = s) := ⟨_, Lib.hid rfl⟩
  have hsl : some9.length ≤ 100000000 := by rw [← Hso.out]; have := (Frame.all_few r).1; omega
  rw [Hso.out] at hco ⊢
  generalize (Frame.all r).2.length = nn at *
  clear hown hb2 HE1
  go_wp2_with fail
  refine (fewS_any A1 c1 ss w2 hm1 (H1.out.ext HE2.out)).mono ?_
  rintro e w3 ⟨rfl, hb3⟩
  have HE3 := Lib.hid (HE2.out.trans' hb3)
  clear hb3 HE2
  obtain ⟨fb, Hfb⟩ : ∃ fb, Hid (fewS ss = fb) := ⟨_, Lib.hid rfl⟩
  rw [Hfb.out]
  by_cases hall : fewS ss = true ∧ r.length ≤ 100 ∧ p.length ≤ 100 ∧ some9.length = 0
  · obtain ⟨hfw, hr1, hp1, hs0⟩ := hall
    rw [Hfb.out] at hfw
    subst hfw
    have hd1 : decide ((100 : Int) < (r.length : Int)) = false := by simp; omega
    have hd2 : decide ((100 : Int) < (p.length : Int)) = false := by simp; omega
    have hd3 : decide ((0 : Int) < (some9.length : Int)) = false := by rw [hs0]; rfl
    have hfs : (∀ s ∈ ss, s.2.1.length ≤ 100) ∧ ss.length ≤ 60 := by
      have := Hfb.out
      unfold fewS at this
      rw [Bool.and_eq_true, List.all_eq_true] at this
      exact ⟨fun s hs => by simpa using this.1 s hs, by simpa using this.2⟩
    have HFS := Lib.hid hfs.1
    have hss := hfs.2
    have hnone := HAll.out _ Hso.out (List.eq_nil_of_length_eq_zero hs0)
    have HNO := Lib.hid hnone
    clear hfs hnone
    go_wp2_with fail
    refine (new_any w3).mono ?_
    rintro e w4 ⟨n1, rfl, hn, hb4⟩
    have HE4 := Lib.hid (HE3.out.trans' hb4)
    have N4 := Lib.hid hn
    have cn := hn.cell1
    have hcn : (#[n1, .slice none 0 0] : Array Value).all (·.oneCell') = true := by simp [cn]; try rfl
    obtain ⟨D, HD⟩ : ∃ D, Hid (w4.heap.size = D) := ⟨_, Lib.hid rfl⟩
    have hDw : w.heap.size ≤ D := by have := HE4.out.size; have := HD.out; omega
    clear hn hb4
    go_wp2_with first
      | (refine wpList_store_named rfl 24 _ _ rfl w4.heap.size _ rfl rfl 24 _ (heap_alloc_new _ _) (by kernel_rfl) rfl hcn w4 (Ext.a1 _ _) (Nat.le_refl _) ?_; intro w5 hb5 hblk5 hs5 ho5; have R5 := Lib.hid (show Rec w5 _ 24 #[n1, .slice none 0 0] from hblk5); have HE5 := Lib.hid (HE4.out.trans' hb5); have N5 := Lib.hid (N4.out.ext hb5); clear HE4 N4; clear hb5 hblk5 hs5 ho5)
    rw [HD.out] at R5 ⊢
    go_loopw [11] (fun i wr => ∃ (k : Nat) (v1 v2 : Value) (a : List UInt8), k ≤ ss.length ∧ i = .int .i64 (k : Int) ∧ Rec wr D 24 #[v1, v2] ∧ Bs wr v1 a ∧ Bs wr v2 [] ∧ Disk.Whole a ∧ a.length ≤ 100100 * (k + 1) ∧ Ext w wr) (fun i _ => ss.length - (intOf i).toNat)
    case atStart => exact ⟨0, n1, .slice none 0 0, Disk.new, Nat.zero_le _, rfl, R5.out, N5.out, Bs.nil _, Disk.Whole.new, by have := Disk.new_le; omega, HE5.out⟩
    case round =>
      obtain ⟨k, v1, v2, a, hk, rfl, hR, hv1, hv2, hwh, hal, hE⟩ := hrel
      obtain ⟨Av, cv, rfl, hcv, hrv⟩ := hv1
      obtain ⟨Aw, cw, rfl, hcw, hrw⟩ := hv2
      have RW := Lib.hid hR
      have BV1 := Lib.hid (show Bs wr (.slice Av a.length cv) a from ⟨_, _, rfl, hcv, hrv⟩)
      have BV2 := Lib.hid (show Bs wr (.slice Aw (([] : List UInt8)).length cw) [] from ⟨_, _, rfl, hcw, hrw⟩)
      have RV1 := Lib.hid hrv
      have HE := Lib.hid hE
      have HWH := Lib.hid hwh
      clear hR hrv hrw hE hwh
      obtain ⟨W, HW⟩ : ∃ W, Hid (wr.heap.size = W) := ⟨_, Lib.hid rfl⟩
      have hDW : D < W := by rw [← HW.out]; exact RW.out.lt
      have hn1 : ∀ u ∈ (#[.slice Av a.length cv, .slice Aw (([] : List UInt8)).length cw] : Array Value).toList, ∀ x, u ≠ B8 x := noBy2 (by intro y e; cases e) (by intro y e; cases e)
      have Hn1 := Lib.hid hn1
      have hn0 : ∀ u ∈ (#[.slice none 0 0, .slice none 0 0] : Array Value).toList, ∀ x, u ≠ B8 x := noBy2 (by intro y e; cases e) (by intro y e; cases e)
      have Hn0 := Lib.hid hn0
      clear hn1 hn0
      rw [show (([] : List UInt8)).length = 0 from rfl] at RW BV2 Hn1
      by_cases hlt : k < ss.length
      · obtain ⟨s, hs⟩ : ∃ s, s = ss[k] := ⟨_, rfl⟩
        have hs100 : s.2.1.length ≤ 100 := HFS.out s (by rw [hs]; exact List.getElem_mem hlt)
        obtain ⟨ad1, rfl, hst⟩ := (H1.out.ext HE.out) k s (by rw [hs]; exact List.getElem?_eq_getElem hlt)
        obtain ⟨B1, d1, _, hc1, _, hd1', hr1'⟩ := hst.at_
        have HC1 := Lib.hid hc1
        have HR1 := Lib.hid (show Bs wr (.slice B1 s.2.1.length d1) s.2.1 from ⟨_, _, rfl, hd1', hr1'⟩)
        clear hs hr1' hst hc1 hd1'
        have hki : (k : Int) < (ss.length : Int) := by omega
        obtain ⟨sp, Hsp⟩ : ∃ sp, Hid (s.2.1 = sp) := ⟨_, Lib.hid rfl⟩
        rw [Hsp.out] at HC1 HR1 hs100
        go_wp2_with fail
        apply wp_region_rel (W) 11 ((by rw [HW.out]; exact Nat.le_refl _)) (by kernel_rfl) (by kernel_rfl) (by kernel_rfl)
          [fun _ => Is (.agg #[.slice Av a.length cv, .slice Aw 0 cw]), fun _ => Is (.slice (some ad1) ss.length c1), fun _ => Is (.int .i64 (k : Int)), fun _ => Is (.pointer (some (ad1.add (k * 3)))), fun _ => Is (.pointer (some ⟨(ad1.add (k * 3)).block, (ad1.add (k * 3)).off + 1, none⟩)), fun _ => Is (.slice B1 sp.length d1), fun _ => fun w v => ∃ x1 x2, v = .tuple #[.agg #[x1, x2], .int .i64 0] ∧ Bs w x1 (a ++ Frame.frame sp) ∧ Bs w x2 [], fun _ => fun w v => ∃ x1 x2, v = .tuple #[.agg #[x1, x2], .int .i64 0] ∧ Bs w x1 (a ++ Frame.frame sp) ∧ Bs w x2 [], fun _ => fun w v => ∃ x1 x2, v = .agg #[x1, x2] ∧ Bs w x1 (a ++ Frame.frame sp) ∧ Bs w x2 [], fun _ => Is (.int .i64 0), fun _ => fun w v => ∃ C, v = .pointer (some ⟨C, 0, none⟩) ∧ W ≤ C ∧ Rec w C 24 #[.slice none 0 0, .slice none 0 0], fun u w v => ∃ C x1 x2, u 10 = .pointer (some ⟨C, 0, none⟩) ∧ W ≤ C ∧ Rec w C 24 #[x1, x2] ∧ Bs w x1 (a ++ Frame.frame sp) ∧ Bs w x2 [], fun _ => Is (.int .i64 0)] (fun i w' => i = 0 → Rec w' D 24 #[.slice Av a.length cv, .slice Aw 0 cw])
        case mono => exact ⟨fun u => Is.st _, fun u => Is.st _, fun u => Is.st _, fun u => Is.st _, fun u => Is.st _, fun u => Is.st _, fun u => Say.st_of (fun w w' v he ⟨x1, x2, h1, h2, h3⟩ => ⟨x1, x2, h1, h2.ext he, h3.ext he⟩), fun u => Say.st_of (fun w w' v he ⟨x1, x2, h1, h2, h3⟩ => ⟨x1, x2, h1, h2.ext he, h3.ext he⟩), fun u => Say.st_of (fun w w' v he ⟨x1, x2, h1, h2, h3⟩ => ⟨x1, x2, h1, h2.ext he, h3.ext he⟩), fun u => Is.st _, fun u => Say.st_of (fun w w' v he ⟨C, h1, h2, h3⟩ => ⟨C, h1, h2, h3.ext he⟩), fun u => Say.st_of (fun w w' v he ⟨C, x1, x2, h0, h1, h2, h3, h4⟩ => ⟨C, x1, x2, h0, h1, h2.ext he, h3.ext he, h4.ext he⟩), fun u => Is.st _, True.intro⟩
        case loc => exact ⟨Loc.plain _, Loc.plain _, Loc.plain _, Loc.plain _, Loc.plain _, Loc.plain _, Loc.plain _, Loc.plain _, Loc.plain _, Loc.plain _, Loc.plain _, fun u u' w v h ⟨C, x1, x2, h0, h1, h2, h3, h4⟩ => ⟨C, x1, x2, by rw [← h 10 (by decide)]; exact h0, h1, h2, h3, h4⟩, Loc.plain _, True.intro⟩
        case monoS => exact fun i w w' he h e => (h e).ext he
        case startS => exact fun i e => RW.out
        case hF => intro u; simp only [fill, Nat.reduceAdd, List.setIfInBounds_toArray, List.set_cons_succ, List.set_cons_zero]; exact rfl
        case steps =>
          refine StepsR.cons ?_ ?_
          · intro u w1 K hE hS hU hd hK hW
            have hR := hS rfl
            refine if_run rfl ?_
            refine wp_load_row 24 (.tmp 10) rfl D rfl 24 _ (0, 0) _ hR Try.underlying24 rfl (by kernel_rfl) ?_
            exact hK _ _ (Below.refl _ _) rfl
          refine StepsR.cons ?_ ?_
          · intro u w1 K hE hS hU hd hK hW
            go_simp
            exact hK _ _ (Below.refl _ _) rfl
          refine StepsR.cons ?_ ?_
          · intro u w1 K hE hS hU hd hK hW
            go_simp
            exact hK _ _ (Below.refl _ _) rfl
          refine StepsR.cons ?_ ?_
          · intro u w1 K hE hS hU hd hK hW
            have d1 : u 1 = (.slice (some ad1) ss.length c1) := hd 1 rfl
            have d2 : u 2 = (.int .i64 (k : Int)) := hd 2 rfl
            simp only [d1, d2] at hK
            go_simp
            exact hK _ _ (Below.refl _ _) rfl
          refine StepsR.cons ?_ ?_
          · intro u w1 K hE hS hU hd hK hW
            have d3 : u 3 = (.pointer (some (ad1.add (k * 3)))) := hd 3 rfl
            simp only [d3] at hK
            go_simp
            exact hK _ _ (Below.refl _ _) rfl
          refine StepsR.cons ?_ ?_
          · intro u w1 K hE hS hU hd hK hW
            have d4 : u 4 = (.pointer (some ⟨(ad1.add (k * 3)).block, (ad1.add (k * 3)).off + 1, none⟩)) := hd 4 rfl
            simp only [d4] at hK
            have hc := (show Ext wr w1 by have h := hE; rw [← HW.out] at h; exact h).cellAt HC1.out
            go_simp
            exact hK _ _ (Below.refl _ _) rfl
          refine StepsR.cons ?_ ?_
          · intro u w1 K hE hS hU hd hK hW
            have d0 : u 0 = (.agg #[.slice Av a.length cv, .slice Aw 0 cw]) := hd 0 rfl
            have d5 : u 5 = (.slice B1 sp.length d1) := hd 5 rfl
            simp only [d0, d5] at hK
            go_simp
            have hX := (show Ext wr w1 by have h := hE; rw [← HW.out] at h; exact h)
            have hC := appendB (tear := 0) (BV1.out.ext hX) (BV2.out.ext hX) (HR1.out.ext hX) (by omega) (by simp) (by omega) (by omega) (by omega)
            rw [Disk.append_whole HWH.out sp (by omega)] at hC
            refine hC.mono ?_
            rintro e w5 ⟨x1, x2, rfl, hx1, hx2, hb5⟩
            exact hK _ _ hb5 ⟨x1, x2, rfl, hx1, hx2⟩
          refine StepsR.cons ?_ ?_
          · intro u w1 K hE hS hU hd hK hW
            obtain ⟨x16, x26, d6, h6_1, h6_2⟩ : ∃ x16 x26, u 6 = .tuple #[.agg #[x16, x26], .int .i64 0] ∧ Bs w1 x16 (a ++ Frame.frame sp) ∧ Bs w1 x26 [] := hd 6 rfl
            simp only [d6] at hK
            go_simp
            exact hK _ _ (Below.refl _ _) ⟨x16, x26, rfl, h6_1, h6_2⟩
          refine StepsR.cons ?_ ?_
          · intro u w1 K hE hS hU hd hK hW
            obtain ⟨x17, x27, d7, h7_1, h7_2⟩ : ∃ x17 x27, u 7 = .tuple #[.agg #[x17, x27], .int .i64 0] ∧ Bs w1 x17 (a ++ Frame.frame sp) ∧ Bs w1 x27 [] := hd 7 rfl
            simp only [d7] at hK
            go_simp
            exact hK _ _ (Below.refl _ _) ⟨x17, x27, rfl, h7_1, h7_2⟩
          refine StepsR.cons ?_ ?_
          · intro u w1 K hE hS hU hd hK hW
            obtain ⟨x17, x27, d7, h7_1, h7_2⟩ : ∃ x17 x27, u 7 = .tuple #[.agg #[x17, x27], .int .i64 0] ∧ Bs w1 x17 (a ++ Frame.frame sp) ∧ Bs w1 x27 [] := hd 7 rfl
            simp only [d7] at hK
            go_simp
            exact hK _ _ (Below.refl _ _) rfl
          refine StepsR.cons ?_ ?_
          · intro u w1 K hE hS hU hd hK hW
            go_simp
            exact hK _ _ (Ext.a1 _ _) ⟨_, rfl, (by have := hE.size; have := HW.out; omega), Rec.new _ _ _⟩
          refine StepsR.cons ?_ ?_
          · intro u w1 K hE hS hU hd hK hW
            obtain ⟨x18, x28, d8, h8_1, h8_2⟩ : ∃ x18 x28, u 8 = .agg #[x18, x28] ∧ Bs w1 x18 (a ++ Frame.frame sp) ∧ Bs w1 x28 [] := hd 8 rfl
            obtain ⟨C10, d10, h10_1, h10_2⟩ : ∃ C10, u 10 = .pointer (some ⟨C10, 0, none⟩) ∧ W ≤ C10 ∧ Rec w1 C10 24 #[.slice none 0 0, .slice none 0 0] := hd 10 rfl
            refine if_run rfl ?_
            refine wp_store_row 24 (.tmp 12) (.tmp 59) rfl C10 _ d10 d8 24 _ h10_2 (by kernel_rfl) rfl (by simp [h8_1.cell1, h8_2.cell1]) ?_
            have hg := grown_setRow w1 C10 #[x18, x28]
            have ht := Turns.ofRec (B := W) h10_2 (by decide) h10_1
            exact hW undef _ (Below.grown (Below.refl W w1) hg (by have := hE.size; have := HW.out; omega) (fun k e => (ht k e).1)) ⟨fun _ _ h => h, fun _ _ h => h, fun _ _ h => h, fun _ _ h => h, fun _ _ h => h, fun _ _ h => h, fun hk => absurd hk (by decide), fun hk v ⟨x1, x2, e, k1, k2⟩ => ⟨x1, x2, e, k1.rec h10_2 Hn0.out hg, k2.rec h10_2 Hn0.out hg⟩, fun hk => absurd hk (by decide), fun _ _ h => h, fun hk => absurd hk (by decide), fun hk => absurd hk (by decide), fun _ _ h => h, True.intro⟩ (fun k hk h e => (h e).turned hg (by intro e2; injection e2 with e2; omega))  ⟨C10, x18, x28, d10, h10_1, h10_2.setRow _, h8_1.rec h10_2 Hn0.out hg, h8_2.rec h10_2 Hn0.out hg⟩
          refine StepsR.cons ?_ ?_
          · intro u w1 K hE hS hU hd hK hW
            have d9 : u 9 = (.int .i64 0) := hd 9 rfl
            simp only [d9] at hK
            go_simp
            exact hK _ _ (Below.refl _ _) rfl
          exact StepsR.nil
        case fin =>
          intro u w9 hE9 hP
          
          have d12 : u 12 = (.int .i64 0) := hP 12 (by decide) (by decide)
          simp only [d12]
          obtain ⟨C, x1, x2, e10, hC, hRC, hx1, hx2⟩ := hP 11 (by decide) (by decide)
          simp only [e10]
          have hX9 : Ext wr w9 := by have h := hE9; rw [← HW.out] at h; exact h
          have HE9 := Lib.hid (HE.out.trans' hX9)
          have RW9 := Lib.hid (show w9.heap[D]? = some (.cells _ 24 (0, 0)) from RW.out.ext hX9)
          have RC9 := Lib.hid hRC
          have X1 := Lib.hid hx1
          have X2 := Lib.hid hx2
          have cx1 := hx1.cell1
          have cx2 := hx2.cell1
          clear hE9 hP hX9 hRC hx1 hx2
          obtain ⟨wm, hwm⟩ : ∃ wm, w9 = wm := ⟨_, rfl⟩
          subst hwm
          go_wp2_with first
            | (with_reducible refine wpList_load_row rfl 24 _ rfl C rfl 24 _ (0, 0) _ RC9.out Try.underlying24 rfl (by kernel_rfl) ?_)
            | (refine wpList_store_rec rfl 24 _ _ rfl D _ rfl rfl 24 _ RW9.out (by kernel_rfl) rfl (by simp [cx1, cx2]) w HE9.out (by omega) ?_; intro wz hbz hblkz hgz hsz; have HBz := Lib.hid hbz; have HKz := Lib.hid hblkz; have HGz := Lib.hid hgz; clear hbz hblkz hgz hsz)
          go_roundw
          case rel => exact ⟨k + 1, x1, x2, a ++ Frame.frame sp, by omega, by go_num, HKz.out, X1.out.rec RW9.out Hn1.out HGz.out, X2.out.rec RW9.out Hn1.out HGz.out, HWH.out.more sp (by omega), by have := Disk.frame_len sp (by omega); rw [List.length_append]; omega, HBz.out⟩
          case measure => simp [intOf]; omega
      · obtain rfl : k = ss.length := by omega
        have HRr := Lib.hid (H2.out.ext HE.out)
        go_wp2_with fail
        apply wp_region_rel (W) 10 ((by rw [HW.out]; exact Nat.le_refl _)) (by kernel_rfl) (by kernel_rfl) (by kernel_rfl)
          [fun _ => fun w v => ∃ A c, v = .slice A 0 c ∧ Own w W (.slice A 0 c) [], fun _ => Is (.pointer (some ⟨D, 0, none⟩)), fun _ => Is (.slice Av a.length cv), fun _ => fun w v => ∃ A c, v = .slice A a.length c ∧ Own w W (.slice A a.length c) a, fun _ => Is (.slice A2 r.length c2), fun _ => fun w v => ∃ A c, v = .slice A (a.length + r.length) c ∧ Own w W (.slice A (a.length + r.length) c) (a ++ r), fun _ => Is (.pointer (some ⟨D, 1, none⟩)), fun _ => Is (.slice Aw 0 cw), fun _ => fun w v => ∃ A c, v = .agg #[.slice A (a.length + r.length) c, .slice Aw 0 cw] ∧ Own w W (.slice A (a.length + r.length) c) (a ++ r), fun _ => fun w v => ∃ C, v = .pointer (some ⟨C, 0, none⟩) ∧ W ≤ C ∧ Rec w C 24 #[.slice none 0 0, .slice none 0 0], fun u w v => ∃ C x1, u 9 = .pointer (some ⟨C, 0, none⟩) ∧ W ≤ C ∧ Rec w C 24 #[x1, .slice Aw 0 cw] ∧ Bs w x1 (a ++ r)] (fun i w' => i = 2 ∨ i = 7 → Rec w' D 24 #[.slice Av a.length cv, .slice Aw 0 cw])
        case mono => exact ⟨fun u => Say.st_of (fun w w' v he ⟨A, c, h1, h2⟩ => ⟨A, c, h1, h2.ext he⟩), fun u => Is.st _, fun u => Is.st _, fun u => Say.st_of (fun w w' v he ⟨A, c, h1, h2⟩ => ⟨A, c, h1, h2.ext he⟩), fun u => Is.st _, fun u => Say.st_of (fun w w' v he ⟨A, c, h1, h2⟩ => ⟨A, c, h1, h2.ext he⟩), fun u => Is.st _, fun u => Is.st _, fun u => Say.st_of (fun w w' v he ⟨A, c, h1, h2⟩ => ⟨A, c, h1, h2.ext he⟩), fun u => Say.st_of (fun w w' v he ⟨C, h1, h2, h3⟩ => ⟨C, h1, h2, h3.ext he⟩), fun u => Say.st_of (fun w w' v he ⟨C, x1, h0, h1, h2, h3⟩ => ⟨C, x1, h0, h1, h2.ext he, h3.ext he⟩), True.intro⟩
        case loc => exact ⟨Loc.plain _, Loc.plain _, Loc.plain _, Loc.plain _, Loc.plain _, Loc.plain _, Loc.plain _, Loc.plain _, Loc.plain _, Loc.plain _, fun u u' w v h ⟨C, x1, h0, h1, h2, h3⟩ => ⟨C, x1, by rw [← h 9 (by decide)]; exact h0, h1, h2, h3⟩, True.intro⟩
        case monoS => exact fun i w w' he h e => (h e).ext he
        case startS => exact fun i e => RW.out
        case hF => intro u; simp only [fill, Nat.reduceAdd, List.setIfInBounds_toArray, List.set_cons_succ, List.set_cons_zero]; exact rfl
        case steps =>
          refine StepsR.cons ?_ ?_
          · intro u w1 K hE hS hU hd hK hW
            go_simp
            exact hK _ _ (Ext.a1 _ _) ⟨_, _, rfl, Own.new w1 W (by have := hE.size; have := HW.out; omega) [] 0 rfl (by simp) #[] rfl⟩
          refine StepsR.cons ?_ ?_
          · intro u w1 K hE hS hU hd hK hW
            go_simp
            exact hK _ _ (Below.refl _ _) rfl
          refine StepsR.cons ?_ ?_
          · intro u w1 K hE hS hU hd hK hW
            have d1 : u 1 = (.pointer (some ⟨D, 0, none⟩)) := hd 1 rfl
            simp only [d1] at hK
            have hc := (hS (by decide)).cell (i := 0) rfl
            go_simp
            exact hK _ _ (Below.refl _ _) rfl
          refine StepsR.cons ?_ ?_
          · intro u w1 K hE hS hU hd hK hW
            obtain ⟨A0, c0, d0, h0_1⟩ : ∃ A0 c0, u 0 = .slice A0 0 c0 ∧ Own w1 W (.slice A0 0 c0) [] := hd 0 rfl
            have d2 : u 2 = (.slice Av a.length cv) := hd 2 rfl
            refine if_run rfl ?_
            refine wp_append_bytes (m := a.length) bt22 (.tmp 62) (.tmp 64) rfl h0_1 d0 d2 rfl (RV1.out.ext (show Ext wr w1 by have h := hE; rw [← HW.out] at h; exact h)) (by simp; omega) (by have := hE.size; have := HW.out; omega) ?_
            simp only [List.length_nil, Nat.zero_add, List.nil_append]
            intro A' c' w2 hown2 hg2 hbl2
            exact hW _ _ (h0_1.below hg2 (Below.refl _ _) (by have := hE.size; have := HW.out; omega) (Nat.le_refl _)) ⟨fun hk => absurd hk (by decide), fun _ _ h => h, fun _ _ h => h, fun hk => absurd hk (by decide), fun _ _ h => h, fun hk => absurd hk (by decide), fun _ _ h => h, fun _ _ h => h, fun hk => absurd hk (by decide), fun hk v ⟨C, e, k1, k2⟩ => ⟨C, e, k1, k2.turned hg2 (fun e2 => h0_1.ne_block k2 (by decide) e2.symm)⟩, fun hk => absurd hk (by decide), True.intro⟩ (fun k hk h e => (h e).turned hg2 (by intro e2; have := (h0_1.block _ e2).1; omega))  ⟨A', c', rfl, hown2⟩
          refine StepsR.cons ?_ ?_
          · intro u w1 K hE hS hU hd hK hW
            go_simp
            exact hK _ _ (Below.refl _ _) rfl
          refine StepsR.cons ?_ ?_
          · intro u w1 K hE hS hU hd hK hW
            obtain ⟨A3, c3, d3, h3_1⟩ : ∃ A3 c3, u 3 = .slice A3 a.length c3 ∧ Own w1 W (.slice A3 a.length c3) a := hd 3 rfl
            have d4 : u 4 = (.slice A2 r.length c2) := hd 4 rfl
            refine if_run rfl ?_
            refine wp_append_bytes (m := r.length) bt22 (.tmp 65) (.tmp 66) rfl h3_1 d3 d4 rfl (HRr.out.ext (show Ext wr w1 by have h := hE; rw [← HW.out] at h; exact h)) (by omega) (by have := hE.size; have := HW.out; omega) ?_
            intro A' c' w2 hown2 hg2 hbl2
            exact hW _ _ (h3_1.below hg2 (Below.refl _ _) (by have := hE.size; have := HW.out; omega) (Nat.le_refl _)) ⟨fun hk => absurd hk (by decide), fun _ _ h => h, fun _ _ h => h, fun hk => absurd hk (by decide), fun _ _ h => h, fun hk => absurd hk (by decide), fun _ _ h => h, fun _ _ h => h, fun hk => absurd hk (by decide), fun hk v ⟨C, e, k1, k2⟩ => ⟨C, e, k1, k2.turned hg2 (fun e2 => h3_1.ne_block k2 (by decide) e2.symm)⟩, fun hk => absurd hk (by decide), True.intro⟩ (fun k hk h e => (h e).turned hg2 (by intro e2; have := (h3_1.block _ e2).1; omega))  ⟨A', c', rfl, hown2⟩
          refine StepsR.cons ?_ ?_
          · intro u w1 K hE hS hU hd hK hW
            go_simp
            exact hK _ _ (Below.refl _ _) rfl
          refine StepsR.cons ?_ ?_
          · intro u w1 K hE hS hU hd hK hW
            have d6 : u 6 = (.pointer (some ⟨D, 1, none⟩)) := hd 6 rfl
            simp only [d6] at hK
            have hc := (hS (by decide)).cell (i := 1) rfl
            go_simp
            exact hK _ _ (Below.refl _ _) rfl
          refine StepsR.cons ?_ ?_
          · intro u w1 K hE hS hU hd hK hW
            obtain ⟨A5, c5, d5, h5_1⟩ : ∃ A5 c5, u 5 = .slice A5 (a.length + r.length) c5 ∧ Own w1 W (.slice A5 (a.length + r.length) c5) (a ++ r) := hd 5 rfl
            have d7 : u 7 = (.slice Aw 0 cw) := hd 7 rfl
            simp only [d5, d7] at hK
            go_simp
            exact hK _ _ (Below.refl _ _) ⟨A5, c5, rfl, h5_1⟩
          refine StepsR.cons ?_ ?_
          · intro u w1 K hE hS hU hd hK hW
            go_simp
            exact hK _ _ (Ext.a1 _ _) ⟨_, rfl, (by have := hE.size; have := HW.out; omega), Rec.new _ _ _⟩
          refine StepsR.cons ?_ ?_
          · intro u w1 K hE hS hU hd hK hW
            obtain ⟨A8, c8, d8, h8_1⟩ : ∃ A8 c8, u 8 = .agg #[.slice A8 (a.length + r.length) c8, .slice Aw 0 cw] ∧ Own w1 W (.slice A8 (a.length + r.length) c8) (a ++ r) := hd 8 rfl
            obtain ⟨C9, d9, h9_1, h9_2⟩ : ∃ C9, u 9 = .pointer (some ⟨C9, 0, none⟩) ∧ W ≤ C9 ∧ Rec w1 C9 24 #[.slice none 0 0, .slice none 0 0] := hd 9 rfl
            refine if_run rfl ?_
            refine wp_store_row 24 (.tmp 14) (.tmp 70) rfl C9 _ d9 d8 24 _ h9_2 (by kernel_rfl) rfl (by simp [Value.oneCell']) ?_
            have hg := grown_setRow w1 C9 #[.slice A8 (a.length + r.length) c8, .slice Aw 0 cw]
            have ht := Turns.ofRec (B := W) h9_2 (by decide) h9_1
            exact hW undef _ (Below.grown (Below.refl W w1) hg (by have := hE.size; have := HW.out; omega) (fun k e => (ht k e).1)) ⟨fun hk => absurd hk (by decide), fun _ _ h => h, fun _ _ h => h, fun hk => absurd hk (by decide), fun _ _ h => h, fun hk => absurd hk (by decide), fun _ _ h => h, fun _ _ h => h, fun hk => absurd hk (by decide), fun hk => absurd hk (by decide), fun hk => absurd hk (by decide), True.intro⟩ (fun k hk h e => (h e).turned hg (by intro e2; injection e2 with e2; omega))  ⟨C9, _, d9, h9_1, h9_2.setRow _, h8_1.bs.rec h9_2 Hn0.out hg⟩
          exact StepsR.nil
        case fin =>
          intro u w9 hE9 hP
          
          obtain ⟨C, x1, e10, hC, hRC, hx1⟩ := hP 10 (by decide) (by decide)
          simp only [e10]
          have hX9 : Ext wr w9 := by have h := hE9; rw [← HW.out] at h; exact h
          have HE9 := Lib.hid (HE.out.trans' hX9)
          have RW9 := Lib.hid (show w9.heap[D]? = some (.cells _ 24 (0, 0)) from RW.out.ext hX9)
          have RC9 := Lib.hid hRC
          have X1 := Lib.hid hx1
          have cx1 := hx1.cell1
          have BV19 := Lib.hid (BV1.out.ext hX9)
          have BV29 := Lib.hid (BV2.out.ext hX9)
          clear hE9 hP hX9 hRC hx1
          obtain ⟨wm, hwm⟩ : ∃ wm, w9 = wm := ⟨_, rfl⟩
          subst hwm
          have hx1r : x1.oneCell' = true := cx1
          go_wp2_with (with_reducible refine wpList_load_row rfl 24 _ rfl D rfl 24 _ (0, 0) _ RW9.out Try.underlying24 rfl (by kernel_rfl) ?_)
          have BP9 := Lib.hid (show Bs w9 (.slice A3 p.length c3) p from ⟨_, _, rfl, hpc, H3.out.ext HE9.out⟩)
          have HQ := appendB (tear := 0) BV19.out BV29.out BP9.out (by omega) (by simp) (by omega) (by omega) (by omega)
          rw [Disk.append_whole HWH.out p (by omega)] at HQ
          refine HQ.mono ?_
          rintro e w10 ⟨y1, y2, rfl, hy1, hy2, hb10⟩
          have HE10 := Lib.hid (HE9.out.trans' hb10)
          have RC10 := Lib.hid (RC9.out.ext hb10)
          have X10 := Lib.hid (X1.out.ext hb10)
          have BV210 := Lib.hid (BV29.out.ext hb10)
          have Y1 := Lib.hid hy1
          have Y2 := Lib.hid hy2
          have cy1 := hy1.cell1
          have cy2 := hy2.cell1
          have BP10 := Lib.hid (BP9.out.ext hb10)
          clear HQ hy1 hy2 hb10 HE9 RC9 BP9 X1 BV29 BV19
          go_wp2_with first
            | (refine wpList_store_named rfl 24 _ _ rfl w10.heap.size _ rfl rfl 24 _ (heap_alloc_new _ _) (by kernel_rfl) rfl (by simp [cy1, cy2]) w10 (Ext.a1 _ _) (Nat.le_refl _) ?_; intro w11 hb11 hblk11 hs11 ho11; have RY11 := Lib.hid (show Rec w11 _ 24 #[y1, y2] from hblk11); have HE11 := Lib.hid (HE10.out.trans' hb11); have RC11 := Lib.hid (RC10.out.ext hb11); have X11 := Lib.hid (X10.out.ext hb11); have BV211 := Lib.hid (BV210.out.ext hb11); have Y11 := Lib.hid (Y1.out.ext hb11); have Y21 := Lib.hid (Y2.out.ext hb11); have BP11 := Lib.hid (BP10.out.ext hb11); clear HE10 RC10 X10 BV210 Y1 Y2 BP10; clear hb11 hblk11 hs11 ho11)
            | (with_reducible refine wpList_load_row rfl 24 _ rfl C rfl 24 _ (0, 0) _ RC11.out Try.underlying24 rfl (by kernel_rfl) ?_)
          have HQ := appendB (tear := 0) X11.out BV211.out BP11.out (by rw [List.length_append]; omega) (by simp) (by omega) (by omega) (by omega)
          rw [Disk.append_stale HWH.out r p HNO.out (by omega)] at HQ
          refine HQ.mono ?_
          rintro e w12 ⟨z1, z2, rfl, hz1, hz2, hb12⟩
          have HE12 := Lib.hid (HE11.out.trans' hb12)
          have RY12 := Lib.hid (RY11.out.ext hb12)
          have Y12 := Lib.hid (Y11.out.ext hb12)
          have Y22 := Lib.hid (Y21.out.ext hb12)
          have Z1 := Lib.hid hz1
          have Z2 := Lib.hid hz2
          have cz1 := hz1.cell1
          have cz2 := hz2.cell1
          have hlt10 : w10.heap.size < w12.heap.size := RY12.out.lt
          clear HQ hz1 hz2 hb12 HE11 RY11 RC11 X11 BV211 Y11 Y21 BP11
          go_wp2_with first
            | (refine wpList_store_named rfl 24 _ _ rfl w12.heap.size _ rfl rfl 24 _ (heap_alloc_new _ _) (by kernel_rfl) rfl (by simp [cz1, cz2]) w12 (Ext.a1 _ _) (Nat.le_refl _) ?_; intro w13 hb13 hblk13 hs13 ho13; have RZ13 := Lib.hid (show Rec w13 _ 24 #[z1, z2] from hblk13); have HE13 := Lib.hid (HE12.out.trans' hb13); have RY13 := Lib.hid (RY12.out.ext hb13); have Y13 := Lib.hid (Y12.out.ext hb13); have Y23 := Lib.hid (Y22.out.ext hb13); have Z13 := Lib.hid (Z1.out.ext hb13); have Z23 := Lib.hid (Z2.out.ext hb13); have gy0 := RY13.out.cell (i := 0) rfl; have gy1 := RY13.out.cell (i := 1) rfl; have gz0 := RZ13.out.cell (i := 0) rfl; have gz1 := RZ13.out.cell (i := 1) rfl; clear HE12 RY12 Y12 Y22 Z1 Z2; clear hb13 hblk13 hs13 ho13)
          have HQ := sameB Y13.out Y23.out Z13.out Z23.out
          simp only [beq_self_eq_true, Bool.and_self] at HQ
          refine HQ.mono ?_
          rintro e w14 ⟨rfl, hb14⟩
          have HE14 := Lib.hid (HE13.out.trans' hb14)
          clear HQ hb14
          go_wp2_with fail
          go_ret
          exact ⟨rfl, HE14.out⟩
  · cases fb with
    | false =>
      go_wp2_with fail
      go_ret
      exact ⟨rfl, HE3.out⟩
    | true =>
      by_cases hr1 : 100 < r.length
      · have hd1 : decide ((100 : Int) < (r.length : Int)) = true := by simp; omega
        go_wp2_with fail
        go_ret
        exact ⟨rfl, HE3.out⟩
      · have hd1 : decide ((100 : Int) < (r.length : Int)) = false := by simp; omega
        by_cases hp1 : 100 < p.length
        · have hd2 : decide ((100 : Int) < (p.length : Int)) = true := by simp; omega
          go_wp2_with fail
          go_ret
          exact ⟨rfl, HE3.out⟩
        · have hd2 : decide ((100 : Int) < (p.length : Int)) = false := by simp; omega
          have hs1 : some9.length ≠ 0 := fun e => hall ⟨Hfb.out, by omega, by omega, e⟩
          have hd3 : decide ((0 : Int) < (some9.length : Int)) = true := by simp; omega
          go_wp2_with fail
          go_ret
          exact ⟨rfl, HE3.out⟩
end Go.Proofs.Ytjcngipaeoegcaa
