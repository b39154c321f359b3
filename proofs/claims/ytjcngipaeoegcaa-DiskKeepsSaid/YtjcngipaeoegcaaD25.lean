/-
  Disks: what a disk keeps behind any steps. Printed by g25.py.
-/
import Derived.Test.YtjcngipaeoegcaaM4
import Derived.Test.YtjcngipaeoegcaaD23
import Derived.Test.YtjcngipaeoegcaaDKeepMath
import Derived.Test.YtjcngipaeoegcaaRel
namespace Go.Proofs.Ytjcngipaeoegcaa
open Go.RowKit
set_option allowUnsafeReducibility true
attribute [local reducible] Rec

theorem LsN.rec {w w' : World} {D g : Nat} {t : TypeId} {cs : Array Value} {v : Value} {ls : List (List UInt8)} (h : LsN w D v ls) (hr : Rec w g t cs) (ht : t ≠ 22) (hv : ∀ u ∈ cs.toList, ∀ x, u ≠ B8 x) (hg : w.grownBy w' (some g)) : LsN w' D v ls := by
  refine ⟨h.1.rec hr ht hv hg, fun g' cs' t' fr hown hh => ?_⟩
  refine h.2 g' cs' t' fr hown ?_
  rw [← hh]
  refine (hg.block g' (h.1.lt g' hown).2 (fun e => ?_)).symm
  injection e with e
  subst e
  obtain ⟨vs, h1, _⟩ := h.1
  rcases h1.2 with ⟨rfl, _⟩ | ⟨g2, cap, cur, rfl, _, hh2, _⟩
  · cases hown
  · injection hown with e2
    subst e2
    rw [hr] at hh2
    injection hh2 with hh2
    injection hh2 with _ hh2
    exact ht hh2
theorem LsO.ne {w : World} {D g : Nat} {t : TypeId} {cs : Array Value} {v : Value} {ls : List (List UInt8)} (h : LsO w D v ls) (hr : w.heap[g]? = some (.cells cs t (0, 0))) (ht : t ≠ 22) : v.ownBlock ≠ some g := by
  intro hown
  obtain ⟨vs, h1, _⟩ := h
  rcases h1.2 with ⟨rfl, _⟩ | ⟨g2, cap, cur, rfl, _, hh2, _⟩
  · cases hown
  · injection hown with e2
    subst e2
    rw [hr] at hh2
    injection hh2 with hh2
    injection hh2 with _ hh2
    exact ht hh2
theorem ls_one {w : World} {ad : Addr} {u : Value} {x : List UInt8} (h : w.cell? ad = some u) (hb : Bs w u x) : Ls w (some ad) [x] := ⟨[u], rfl, row_one h, fun j u' x' hu hx => by
  cases j with
  | zero =>
    simp at hu hx
    subst hu
    subst hx
    exact hb
  | succ j => simp at hu⟩

set_option maxRecDepth 100000 in
set_option maxHeartbeats 16000000 in
theorem keeps_any (A1 : Option Addr) (c1 : Nat) (ss : List Stp) (w : World) (hm1 : ss.length ≤ 9223372036854775807) (h1 : InSteps w A1 ss) (hw1 : ∀ s ∈ ss, -9223372036854775808 ≤ s.2.2 ∧ s.2.2 ≤ 9223372036854775807) :
    Calls Try.prog 4 #[.slice A1 ss.length c1] w fun e w' => e = .returned (.bool true) ∧ Ext w w' := by
  have H1 := Lib.hid h1
  have HT := Lib.hid hw1
  clear h1 hw1
  go_enter Try.func4, Try.ntmps4
  go_wp2_with fail
  refine (awake_any w).mono ?_
  rintro e w2 ⟨rfl, hb2⟩
  have HE2 := Lib.hid hb2
  clear hb2
  go_wp2_with fail
  refine (fewS_any A1 c1 ss w2 hm1 (H1.out.ext HE2.out)).mono ?_
  rintro e w3 ⟨rfl, hb3⟩
  have HE3 := Lib.hid (HE2.out.trans' hb3)
  clear hb3 HE2
  obtain ⟨fb, Hfb⟩ : ∃ fb, Hid (fewS ss = fb) := ⟨_, Lib.hid rfl⟩
  rw [Hfb.out]
  cases fb with
  | false =>
    go_wp2_with fail
    go_ret
    exact ⟨rfl, HE3.out⟩
  | true =>
    have hfs : (∀ s ∈ ss, s.2.1.length ≤ 100) ∧ ss.length ≤ 60 := by
      have := Hfb.out
      unfold fewS at this
      rw [Bool.and_eq_true, List.all_eq_true] at this
      exact ⟨fun s hs => by simpa using this.1 s hs, by simpa using this.2⟩
    have HFS := Lib.hid hfs.1
    have hss := hfs.2
    clear hfs
    go_wp2_with fail
    refine (new_any w3).mono ?_
    rintro e w4 ⟨n1, rfl, hn, hb4⟩
    have HE4 := Lib.hid (HE3.out.trans' hb4)
    have N4 := Lib.hid hn
    have cn := hn.cell1
    have hcn : (#[n1, .slice none 0 0] : Array Value).all (·.oneCell') = true := by simp [cn]; try rfl
    obtain ⟨D, HD⟩ : ∃ D, Hid (w4.heap.size = D) := ⟨_, Lib.hid rfl⟩
    have hDw : w.heap.size ≤ D := by have := HE4.out.size; have := HD.out; omega
    clear hn hb4
    go_wp2_with first
      | (refine wpList_store_named rfl 24 _ _ rfl w4.heap.size _ rfl rfl 24 _ (heap_alloc_new _ _) (by kernel_rfl) rfl hcn w4 (Ext.a1 _ _) (Nat.le_refl _) ?_; intro w5 hb5 hblk5 hs5 ho5; have R5 := Lib.hid (show Rec w5 _ 24 #[n1, .slice none 0 0] from hblk5); have HE5 := Lib.hid (HE4.out.trans' hb5); have N5 := Lib.hid (N4.out.ext hb5); clear HE4 N4; clear hb5 hblk5 hs5 ho5)
    rw [HD.out] at R5 ⊢
    go_loopw [5, 6] (fun v i wr => ∃ (k : Nat) (v1 v2 : Value) (a b : List UInt8) (want : List (List UInt8)) (Ax : Option Addr) (cx : Nat), k ≤ ss.length ∧ i = .int .i64 (k : Int) ∧ v = .slice Ax want.length cx ∧ Rec wr D 24 #[v1, v2] ∧ Bs wr v1 a ∧ Bs wr v2 b ∧ Disk.Keeps a b want k ∧ LsN wr w.heap.size (.slice Ax want.length cx) want ∧ Ext w wr) (fun _ i _ => ss.length - (intOf i).toNat)
    case atStart => exact ⟨0, n1, .slice none 0 0, Disk.new, [], [], none, 0, Nat.zero_le _, rfl, rfl, R5.out, N5.out, Bs.nil _, Disk.Keeps.new, LsN.nil _ _, HE5.out⟩
    case round =>
      obtain ⟨k, v1, v2, a, b, want, Ax, cx, hk, rfl, rfl, hR, hv1, hv2, hks, hls, hE⟩ := hrel
      obtain ⟨Av, cv, rfl, hcv, hrv⟩ := hv1
      obtain ⟨Aw, cw, rfl, hcw, hrw⟩ := hv2
      have RW := Lib.hid hR
      have BV1 := Lib.hid (show Bs wr (.slice Av a.length cv) a from ⟨_, _, rfl, hcv, hrv⟩)
      have BV2 := Lib.hid (show Bs wr (.slice Aw b.length cw) b from ⟨_, _, rfl, hcw, hrw⟩)
      have HE := Lib.hid hE
      have HKS := Lib.hid hks
      have LW := Lib.hid hls
      have hla := hks.la
      have hlb := hks.lb
      have hwm := hks.many
      clear hR hrv hrw hE hks hls
      obtain ⟨W, HW⟩ : ∃ W, Hid (wr.heap.size = W) := ⟨_, Lib.hid rfl⟩
      have hDW : D < W := by rw [← HW.out]; exact RW.out.lt
      have Hn1 := Lib.hid (show ∀ u ∈ (#[.slice Av a.length cv, .slice Aw b.length cw] : Array Value).toList, ∀ x, u ≠ B8 x from noBy2 (by intro y e; cases e) (by intro y e; cases e))
      have Hn0 := Lib.hid (show ∀ u ∈ (#[.slice none 0 0, .slice none 0 0] : Array Value).toList, ∀ x, u ≠ B8 x from noBy2 (by intro y e; cases e) (by intro y e; cases e))
      by_cases hlt : k < ss.length
      · obtain ⟨s, hs⟩ : ∃ s, s = ss[k] := ⟨_, rfl⟩
        have hs100 : s.2.1.length ≤ 100 := HFS.out s (by rw [hs]; exact List.getElem_mem hlt)
        have hts := HT.out s (by rw [hs]; exact List.getElem_mem hlt)
        obtain ⟨ad1, rfl, hst⟩ := (H1.out.ext HE.out) k s (by rw [hs]; exact List.getElem?_eq_getElem hlt)
        obtain ⟨B1, d1, hc0, hc1, hc2, hd1', hr1'⟩ := hst.at_
        clear hs hst
        obtain ⟨sn, sp, tear⟩ := s
        simp only at hs100 hts hc0 hc1 hc2 hd1' hr1'
        have HC1 := Lib.hid hc1
        have HC2 := Lib.hid hc2
        have HR1 := Lib.hid (show Bs wr (.slice B1 sp.length d1) sp from ⟨_, _, rfl, hd1', hr1'⟩)
        clear hr1' hd1'
        obtain ⟨ht1, ht2⟩ := hts
        have hki : (k : Int) < (ss.length : Int) := by omega
        obtain ⟨er, Her⟩ : ∃ er : Int, Hid ((if tear = 0 then 0 else 230) = er) := ⟨_, Lib.hid rfl⟩
        obtain ⟨tz, Htz⟩ : ∃ tz, (tear == (0 : Int)) = tz := ⟨_, rfl⟩
        have hez : (er == (0 : Int)) = tz := by
          rw [← Her.out, ← Htz]
          split
          · rename_i h; rw [h]
          · rename_i h; simp [h]
        cases sn with
        | true =>
          have hsnp := HKS.out.snap (by omega) tear
          rw [Her.out] at hsnp
          have HSE := Lib.hid hsnp.1
          have HKN := Lib.hid hsnp.2
          clear hsnp
          obtain ⟨r, Hr⟩ : ∃ r, Hid (Disk.snap a b tear = r) := ⟨_, Lib.hid rfl⟩
          rw [Hr.out] at HSE HKN
          go_wp2_with fail
          apply wp_region_rel (W) 11 ((by rw [HW.out]; exact Nat.le_refl _)) (by kernel_rfl) (by kernel_rfl) (by kernel_rfl)
            [fun _ => Is (.agg #[.slice Av a.length cv, .slice Aw b.length cw]), fun _ => Is (.slice (some ad1) ss.length c1), fun _ => Is (.int .i64 (k : Int)), fun _ => Is (.pointer (some (ad1.add (k * 3)))), fun _ => Is (.pointer (some ⟨(ad1.add (k * 3)).block, (ad1.add (k * 3)).off + 2, none⟩)), fun _ => Is (.int .i64 tear), fun _ => fun w v => ∃ x1 x2, v = .tuple #[.agg #[x1, x2], .int .i64 er] ∧ Bs w x1 r.1.1 ∧ Bs w x2 r.1.2, fun _ => fun w v => ∃ x1 x2, v = .tuple #[.agg #[x1, x2], .int .i64 er] ∧ Bs w x1 r.1.1 ∧ Bs w x2 r.1.2, fun _ => fun w v => ∃ x1 x2, v = .agg #[x1, x2] ∧ Bs w x1 r.1.1 ∧ Bs w x2 r.1.2, fun _ => Is (.int .i64 er), fun _ => fun w v => ∃ C, v = .pointer (some ⟨C, 0, none⟩) ∧ W ≤ C ∧ Rec w C 24 #[.slice none 0 0, .slice none 0 0], fun u w v => ∃ C x1 x2, u 10 = .pointer (some ⟨C, 0, none⟩) ∧ W ≤ C ∧ Rec w C 24 #[x1, x2] ∧ Bs w x1 r.1.1 ∧ Bs w x2 r.1.2, fun _ => Is (.int .i64 er)] (fun i w' => i = 0 → Rec w' D 24 #[.slice Av a.length cv, .slice Aw b.length cw])
          case mono => exact ⟨fun u => Is.st _, fun u => Is.st _, fun u => Is.st _, fun u => Is.st _, fun u => Is.st _, fun u => Is.st _, fun u => Say.st_of (fun w w' v he ⟨x1, x2, h1, h2, h3⟩ => ⟨x1, x2, h1, h2.ext he, h3.ext he⟩), fun u => Say.st_of (fun w w' v he ⟨x1, x2, h1, h2, h3⟩ => ⟨x1, x2, h1, h2.ext he, h3.ext he⟩), fun u => Say.st_of (fun w w' v he ⟨x1, x2, h1, h2, h3⟩ => ⟨x1, x2, h1, h2.ext he, h3.ext he⟩), fun u => Is.st _, fun u => Say.st_of (fun w w' v he ⟨C, h1, h2, h3⟩ => ⟨C, h1, h2, h3.ext he⟩), fun u => Say.st_of (fun w w' v he ⟨C, x1, x2, h0, h1, h2, h3, h4⟩ => ⟨C, x1, x2, h0, h1, h2.ext he, h3.ext he, h4.ext he⟩), fun u => Is.st _, True.intro⟩
          case loc => exact ⟨Loc.plain _, Loc.plain _, Loc.plain _, Loc.plain _, Loc.plain _, Loc.plain _, Loc.plain _, Loc.plain _, Loc.plain _, Loc.plain _, Loc.plain _, fun u u' w v h ⟨C, x1, x2, h0, h1, h2, h3, h4⟩ => ⟨C, x1, x2, by rw [← h 10 (by decide)]; exact h0, h1, h2, h3, h4⟩, Loc.plain _, True.intro⟩
          case monoS => exact fun i w w' he h e => (h e).ext he
          case startS => exact fun i e => RW.out
          case hF => intro u; simp only [fill, Nat.reduceAdd, List.setIfInBounds_toArray, List.set_cons_succ, List.set_cons_zero]; exact rfl
          case steps =>
            refine StepsR.cons ?_ ?_
            · intro u w1 K hE hS hU hd hK hW
              have hR := hS rfl
              refine if_run rfl ?_
              refine wp_load_row 24 (.tmp 4) rfl D rfl 24 _ (0, 0) _ hR Try.underlying24 rfl (by kernel_rfl) ?_
              exact hK _ _ (Below.refl _ _) rfl
            refine StepsR.cons ?_ ?_
            · intro u w1 K hE hS hU hd hK hW
              go_simp
              exact hK _ _ (Below.refl _ _) rfl
            refine StepsR.cons ?_ ?_
            · intro u w1 K hE hS hU hd hK hW
              go_simp
              exact hK _ _ (Below.refl _ _) rfl
            refine StepsR.cons ?_ ?_
            · intro u w1 K hE hS hU hd hK hW
              have d1 : u 1 = (.slice (some ad1) ss.length c1) := hd 1 rfl
              have d2 : u 2 = (.int .i64 (k : Int)) := hd 2 rfl
              simp only [d1, d2] at hK
              go_simp
              exact hK _ _ (Below.refl _ _) rfl
            refine StepsR.cons ?_ ?_
            · intro u w1 K hE hS hU hd hK hW
              have d3 : u 3 = (.pointer (some (ad1.add (k * 3)))) := hd 3 rfl
              simp only [d3] at hK
              go_simp
              exact hK _ _ (Below.refl _ _) rfl
            refine StepsR.cons ?_ ?_
            · intro u w1 K hE hS hU hd hK hW
              have d4 : u 4 = (.pointer (some ⟨(ad1.add (k * 3)).block, (ad1.add (k * 3)).off + 2, none⟩)) := hd 4 rfl
              simp only [d4] at hK
              have hc := (show Ext wr w1 by have h := hE; rw [← HW.out] at h; exact h).cellAt HC2.out
              go_simp
              exact hK _ _ (Below.refl _ _) rfl
            refine StepsR.cons ?_ ?_
            · intro u w1 K hE hS hU hd hK hW
              have d0 : u 0 = (.agg #[.slice Av a.length cv, .slice Aw b.length cw]) := hd 0 rfl
              have d5 : u 5 = (.int .i64 tear) := hd 5 rfl
              simp only [d0, d5] at hK
              go_simp
              have hX := (show Ext wr w1 by have h := hE; rw [← HW.out] at h; exact h)
              have hC := snapB (tear := tear) (BV1.out.ext hX) (BV2.out.ext hX) (by omega) (by omega) ht1 ht2
              rw [Hr.out] at hC
              unfold RetDisk at hC
              rw [HSE.out] at hC
              refine hC.mono ?_
              rintro e w5 ⟨x1, x2, rfl, hx1, hx2, hb5⟩
              exact hK _ _ hb5 ⟨x1, x2, rfl, hx1, hx2⟩
            refine StepsR.cons ?_ ?_
            · intro u w1 K hE hS hU hd hK hW
              obtain ⟨x16, x26, d6, h6_1, h6_2⟩ : ∃ x16 x26, u 6 = .tuple #[.agg #[x16, x26], .int .i64 er] ∧ Bs w1 x16 r.1.1 ∧ Bs w1 x26 r.1.2 := hd 6 rfl
              simp only [d6] at hK
              go_simp
              exact hK _ _ (Below.refl _ _) ⟨x16, x26, rfl, h6_1, h6_2⟩
            refine StepsR.cons ?_ ?_
            · intro u w1 K hE hS hU hd hK hW
              obtain ⟨x17, x27, d7, h7_1, h7_2⟩ : ∃ x17 x27, u 7 = .tuple #[.agg #[x17, x27], .int .i64 er] ∧ Bs w1 x17 r.1.1 ∧ Bs w1 x27 r.1.2 := hd 7 rfl
              simp only [d7] at hK
              go_simp
              exact hK _ _ (Below.refl _ _) ⟨x17, x27, rfl, h7_1, h7_2⟩
            refine StepsR.cons ?_ ?_
            · intro u w1 K hE hS hU hd hK hW
              obtain ⟨x17, x27, d7, h7_1, h7_2⟩ : ∃ x17 x27, u 7 = .tuple #[.agg #[x17, x27], .int .i64 er] ∧ Bs w1 x17 r.1.1 ∧ Bs w1 x27 r.1.2 := hd 7 rfl
              simp only [d7] at hK
              go_simp
              exact hK _ _ (Below.refl _ _) rfl
            refine StepsR.cons ?_ ?_
            · intro u w1 K hE hS hU hd hK hW
              go_simp
              exact hK _ _ (Ext.a1 _ _) ⟨_, rfl, (by have := hE.size; have := HW.out; omega), Rec.new _ _ _⟩
            refine StepsR.cons ?_ ?_
            · intro u w1 K hE hS hU hd hK hW
              obtain ⟨x18, x28, d8, h8_1, h8_2⟩ : ∃ x18 x28, u 8 = .agg #[x18, x28] ∧ Bs w1 x18 r.1.1 ∧ Bs w1 x28 r.1.2 := hd 8 rfl
              obtain ⟨C10, d10, h10_1, h10_2⟩ : ∃ C10, u 10 = .pointer (some ⟨C10, 0, none⟩) ∧ W ≤ C10 ∧ Rec w1 C10 24 #[.slice none 0 0, .slice none 0 0] := hd 10 rfl
              refine if_run rfl ?_
              refine wp_store_row 24 (.tmp 7) (.tmp 44) rfl C10 _ d10 d8 24 _ h10_2 (by kernel_rfl) rfl (by simp [h8_1.cell1, h8_2.cell1]) ?_
              have hg := grown_setRow w1 C10 #[x18, x28]
              have ht := Turns.ofRec (B := W) h10_2 (by decide) h10_1
              exact hW undef _ (Below.grown (Below.refl W w1) hg (by have := hE.size; have := HW.out; omega) (fun k e => (ht k e).1)) ⟨fun _ _ h => h, fun _ _ h => h, fun _ _ h => h, fun _ _ h => h, fun _ _ h => h, fun _ _ h => h, fun hk => absurd hk (by decide), fun hk v ⟨x1, x2, e, k1, k2⟩ => ⟨x1, x2, e, k1.rec h10_2 Hn0.out hg, k2.rec h10_2 Hn0.out hg⟩, fun hk => absurd hk (by decide), fun _ _ h => h, fun hk => absurd hk (by decide), fun hk => absurd hk (by decide), fun _ _ h => h, True.intro⟩ (fun k hk h e => (h e).turned hg (by intro e2; injection e2 with e2; omega))  ⟨C10, x18, x28, d10, h10_1, h10_2.setRow _, h8_1.rec h10_2 Hn0.out hg, h8_2.rec h10_2 Hn0.out hg⟩
            refine StepsR.cons ?_ ?_
            · intro u w1 K hE hS hU hd hK hW
              have d9 : u 9 = (.int .i64 er) := hd 9 rfl
              simp only [d9] at hK
              go_simp
              exact hK _ _ (Below.refl _ _) rfl
            exact StepsR.nil
          case fin =>
            intro u w9 hE9 hP
            
            have d12 : u 12 = (.int .i64 er) := hP 12 (by decide) (by decide)
            simp only [d12]
            obtain ⟨C, x1, x2, e10, hC, hRC, hx1, hx2⟩ := hP 11 (by decide) (by decide)
            simp only [e10]
            have hX9 : Ext wr w9 := by have h := hE9; rw [← HW.out] at h; exact h
            have HE9 := Lib.hid (HE.out.trans' hX9)
            have RW9 := Lib.hid (show w9.heap[D]? = some (.cells _ 24 (0, 0)) from RW.out.ext hX9)
            have RC9 := Lib.hid hRC
            have X1 := Lib.hid hx1
            have X2 := Lib.hid hx2
            have LW9 := Lib.hid (LW.out.ext hX9)
            have cx1 := hx1.cell1
            have cx2 := hx2.cell1
            have hc19 := hX9.cellAt HC1.out
            have hc29 := hX9.cellAt HC2.out
            have HR19 := Lib.hid (HR1.out.ext hX9)
            clear hE9 hP hX9 hRC hx1 hx2 hc1 hc2
            obtain ⟨wm, hwm⟩ : ∃ wm, w9 = wm := ⟨_, rfl⟩
            subst hwm
            have HEs := HE9
            have RWs := RW9
            have X1s := X1
            have X2s := X2
            have LWs := LW9
            go_wp2_with first
              | (with_reducible refine wpList_load_row rfl 24 _ rfl C rfl 24 _ (0, 0) _ RC9.out Try.underlying24 rfl (by kernel_rfl) ?_)
              | (refine wpList_store_rec rfl 24 _ _ rfl D _ rfl rfl 24 _ RWs.out (by kernel_rfl) rfl (by simp [cx1, cx2]) w HEs.out (by omega) ?_; intro wz hbz hblkz hgz hsz; have HEz := Lib.hid hbz; have RWz := Lib.hid (show Rec wz D 24 #[x1, x2] from hblkz); have X1z := Lib.hid (X1s.out.rec RWs.out Hn1.out hgz); have X2z := Lib.hid (X2s.out.rec RWs.out Hn1.out hgz); have LWz := Lib.hid (LWs.out.rec RWs.out (by decide) Hn1.out hgz); clear hbz hblkz hgz hsz)
              | (with_reducible refine wpList_load_row rfl 24 _ rfl D rfl 24 _ (0, 0) _ RWz.out Try.underlying24 rfl (by kernel_rfl) ?_)
            have hna := HKN.out.la
            have hnb := HKN.out.lb
            have hnm := HKN.out.many
            obtain ⟨xa, xb, hop1, hop2, hxa, hxb⟩ := HKN.out.opened
            have HOP1 := Lib.hid hop1
            have HOP2 := Lib.hid hop2
            clear hop1 hop2
            have HQ := openB X1z.out X2z.out (by omega) (by omega)
            rw [HOP1.out] at HQ
            refine HQ.mono ?_
            rintro e y1 ⟨o1, o2, Ao, co, rfl, ho1, ho2, hco, hlo, hby1⟩
            have HEy1 := Lib.hid (HEz.out.trans' hby1)
            have RWy1 := Lib.hid (RWz.out.ext hby1)
            have X1y1 := Lib.hid (X1z.out.ext hby1)
            have X2y1 := Lib.hid (X2z.out.ext hby1)
            have LWy1 := Lib.hid (LWz.out.ext hby1)
            have O1 := Lib.hid ho1
            have O2 := Lib.hid ho2
            have LO := Lib.hid hlo
            have co1 := ho1.cell1
            have co2 := ho2.cell1
            clear HQ ho1 ho2 hlo hby1
            go_wp2_with first
              | (refine wpList_store_named rfl 24 _ _ rfl y1.heap.size _ rfl rfl 24 _ (heap_alloc_new _ _) (by kernel_rfl) rfl (by simp [co1, co2]) y1 (Ext.a1 _ _) (Nat.le_refl _) ?_; intro y2 hby2 hblk hsy hoy; have RO := Lib.hid (show Rec y2 y1.heap.size 24 #[o1, o2] from hblk); have HEy2 := Lib.hid (HEy1.out.trans' hby2); have RWy2 := Lib.hid (RWy1.out.ext hby2); have X1y2 := Lib.hid (X1y1.out.ext hby2); have X2y2 := Lib.hid (X2y1.out.ext hby2); have LWy2 := Lib.hid (LWy1.out.ext hby2); have O1y2 := Lib.hid (O1.out.ext hby2); have O2y2 := Lib.hid (O2.out.ext hby2); have LOy2 := Lib.hid (LO.out.ext hby2); clear hby2 hblk hsy hoy)
              | (with_reducible refine wpList_load_row rfl 24 _ rfl y1.heap.size rfl 24 _ (0, 0) _ RO.out Try.underlying24 rfl (by kernel_rfl) ?_)
            have HQ := openB O1y2.out O2y2.out (by omega) (by omega)
            rw [HOP2.out] at HQ
            refine HQ.mono ?_
            rintro e y3 ⟨q1, q2, Aq, cq, rfl, hq1, hq2, hcq, hlq, hby3⟩
            have HEy3 := Lib.hid (HEy2.out.trans' hby3)
            have RWy3 := Lib.hid (RWy2.out.ext hby3)
            have X1y3 := Lib.hid (X1y2.out.ext hby3)
            have X2y3 := Lib.hid (X2y2.out.ext hby3)
            have LWy3 := Lib.hid (LWy2.out.ext hby3)
            have O1y3 := Lib.hid (O1y2.out.ext hby3)
            have O2y3 := Lib.hid (O2y2.out.ext hby3)
            have LOy3 := Lib.hid (LOy2.out.ext hby3)
            have ROy3 := Lib.hid (RO.out.ext hby3)
            have Q1 := Lib.hid hq1
            have Q2 := Lib.hid hq2
            have LQ := Lib.hid hlq
            have cq1 := hq1.cell1
            have cq2 := hq2.cell1
            have hOq : y1.heap.size < y3.heap.size := ROy3.out.lt
            clear HQ hq1 hq2 hlq hby3
            go_wp2_with first
              | (refine wpList_store_named rfl 24 _ _ rfl y3.heap.size _ rfl rfl 24 _ (heap_alloc_new _ _) (by kernel_rfl) rfl (by simp [cq1, cq2]) y3 (Ext.a1 _ _) (Nat.le_refl _) ?_; intro y4 hby4 hblk hsy hoy; have RQ := Lib.hid (show Rec y4 y3.heap.size 24 #[q1, q2] from hblk); have HEy4 := Lib.hid (HEy3.out.trans' hby4); have RWy4 := Lib.hid (RWy3.out.ext hby4); have X1y4 := Lib.hid (X1y3.out.ext hby4); have X2y4 := Lib.hid (X2y3.out.ext hby4); have LWy4 := Lib.hid (LWy3.out.ext hby4); have O1y4 := Lib.hid (O1y3.out.ext hby4); have O2y4 := Lib.hid (O2y3.out.ext hby4); have LOy4 := Lib.hid (LOy3.out.ext hby4); have ROy4 := Lib.hid (ROy3.out.ext hby4); have Q1y4 := Lib.hid (Q1.out.ext hby4); have Q2y4 := Lib.hid (Q2.out.ext hby4); have LQy4 := Lib.hid (LQ.out.ext hby4); clear hby4 hblk hsy hoy)
            have HQ := same_any Ao Ax co cx want want y4 (by omega) (by omega) LOy4.out LWy4.out.1.ls
            simp only [beq_self_eq_true] at HQ
            refine HQ.mono ?_
            rintro e y5 ⟨rfl, hby5⟩
            have HEy5 := Lib.hid (HEy4.out.trans' hby5)
            have RWy5 := Lib.hid (RWy4.out.ext hby5)
            have X1y5 := Lib.hid (X1y4.out.ext hby5)
            have X2y5 := Lib.hid (X2y4.out.ext hby5)
            have LWy5 := Lib.hid (LWy4.out.ext hby5)
            have O1y5 := Lib.hid (O1y4.out.ext hby5)
            have O2y5 := Lib.hid (O2y4.out.ext hby5)
            have ROy5 := Lib.hid (ROy4.out.ext hby5)
            have RQy5 := Lib.hid (RQ.out.ext hby5)
            have Q1y5 := Lib.hid (Q1y4.out.ext hby5)
            have Q2y5 := Lib.hid (Q2y4.out.ext hby5)
            have LQy5 := Lib.hid (LQy4.out.ext hby5)
            clear HQ hby5
            go_wp2_with fail
            have HQ := same_any Aq Ax cq cx want want y5 (by omega) (by omega) LQy5.out LWy5.out.1.ls
            simp only [beq_self_eq_true] at HQ
            refine HQ.mono ?_
            rintro e y6 ⟨rfl, hby6⟩
            have HEy6 := Lib.hid (HEy5.out.trans' hby6)
            have RWy6 := Lib.hid (RWy5.out.ext hby6)
            have X1y6 := Lib.hid (X1y5.out.ext hby6)
            have X2y6 := Lib.hid (X2y5.out.ext hby6)
            have LWy6 := Lib.hid (LWy5.out.ext hby6)
            have O1y6 := Lib.hid (O1y5.out.ext hby6)
            have O2y6 := Lib.hid (O2y5.out.ext hby6)
            have ROy6 := Lib.hid (ROy5.out.ext hby6)
            have RQy6 := Lib.hid (RQy5.out.ext hby6)
            have Q1y6 := Lib.hid (Q1y5.out.ext hby6)
            have Q2y6 := Lib.hid (Q2y5.out.ext hby6)
            have g0 := ROy6.out.cell (i := 0) rfl
            have g1 := ROy6.out.cell (i := 1) rfl
            have g2 := RQy6.out.cell (i := 0) rfl
            have g3 := RQy6.out.cell (i := 1) rfl
            clear HQ hby6
            go_wp2_with fail
            have HQ := sameB O1y6.out O2y6.out Q1y6.out Q2y6.out
            simp only [beq_self_eq_true, Bool.and_self] at HQ
            refine HQ.mono ?_
            rintro e y7 ⟨rfl, hby7⟩
            have HEy7 := Lib.hid (HEy6.out.trans' hby7)
            have RWy7 := Lib.hid (RWy6.out.ext hby7)
            have X1y7 := Lib.hid (X1y6.out.ext hby7)
            have X2y7 := Lib.hid (X2y6.out.ext hby7)
            have LWy7 := Lib.hid (LWy6.out.ext hby7)
            clear HQ hby7
            go_wp2_with fail
            go_roundw
            case rel => exact ⟨k + 1, x1, x2, _, _, want, Ax, cx, by omega, by go_num, rfl, RWy7.out, X1y7.out, X2y7.out, HKN.out, LWy7.out, HEy7.out⟩
            case measure => simp [intOf]; omega
        | false =>
          have happ := HKS.out.append sp hs100 tear
          rw [Her.out] at happ
          have HSE := Lib.hid happ.1
          have HKN' := Lib.hid happ.2
          clear happ
          obtain ⟨r, Hr⟩ : ∃ r, Hid (Disk.append a b sp tear = r) := ⟨_, Lib.hid rfl⟩
          rw [Hr.out] at HSE HKN'
          have hput : Frame.put [] sp = some (Frame.frame sp) := by
            unfold Frame.put
            rw [if_neg (by omega)]
            rfl
          obtain ⟨fr, Hfr⟩ : ∃ fr, Hid (Frame.frame sp = fr) := ⟨_, Lib.hid rfl⟩
          have HQ := (by obtain ⟨A9, c9, e9, h9, hr9⟩ := HR1.out; injection e9 with e9 _ e9'; subst e9; exact fput_any none B1 0 d1 [] sp wr (by simp) (by omega) (Row.nil _ _) hr9 : Calls Try.prog 20 #[.slice none (([] : List UInt8)).length 0, .slice B1 sp.length d1] wr (RetFPut wr (Frame.put [] sp)))
          rw [hput, Hfr.out] at HQ
          rw [Hfr.out] at HKN'
          have hfl : fr.length ≤ 100100 := by rw [← Hfr.out]; exact Disk.frame_len sp (by omega)
          clear hput
          go_wp2_with fail
          refine HQ.mono ?_
          rintro e wq ⟨hbq, vq, rfl, hownq⟩
          obtain ⟨Aq0, cq0, rfl, hcq0⟩ := hownq.shape
          have hE' := HE.out.trans' hbq
          have RW' := RW.out.ext hbq
          have BV1' := BV1.out.ext hbq
          have BV2' := BV2.out.ext hbq
          have LW' := LW.out.ext hbq
          have HC1' := hbq.cellAt HC1.out
          have HC2' := hbq.cellAt HC2.out
          have HR1' := HR1.out.ext hbq
          clear HQ hbq hownq HE RW BV1 BV2 LW HC1 HC2 HR1 HW hDW W hc0 hc1 hc2
          have HE := Lib.hid hE'
          have RW := Lib.hid RW'
          have BV1 := Lib.hid BV1'
          have BV2 := Lib.hid BV2'
          have LW := Lib.hid LW'
          have HC1 := Lib.hid HC1'
          have HC2 := Lib.hid HC2'
          have HR1 := Lib.hid HR1'
          have hc1 := HC1'
          have hc2 := HC2'
          clear hE' RW' BV1' BV2' LW' HC1' HC2' HR1'
          obtain ⟨wr0, hwr0⟩ : ∃ x, wr = x := ⟨_, rfl⟩
          subst hwr0
          obtain ⟨W, HW⟩ : ∃ W, Hid (wq.heap.size = W) := ⟨_, Lib.hid rfl⟩
          have hDW : D < W := by rw [← HW.out]; exact RW.out.lt
          go_wp2_with fail
          apply wp_region_rel (W) 16 ((by rw [HW.out]; exact Nat.le_refl _)) (by kernel_rfl) (by kernel_rfl) (by kernel_rfl)
            [fun _ => Is (.agg #[.slice Av a.length cv, .slice Aw b.length cw]), fun _ => Is (.slice (some ad1) ss.length c1), fun _ => Is (.int .i64 (k : Int)), fun _ => Is (.pointer (some (ad1.add (k * 3)))), fun _ => Is (.pointer (some ⟨(ad1.add (k * 3)).block, (ad1.add (k * 3)).off + 1, none⟩)), fun _ => Is (.slice B1 sp.length d1), fun _ => Is (.slice (some ad1) ss.length c1), fun _ => Is (.int .i64 (k : Int)), fun _ => Is (.pointer (some (ad1.add (k * 3)))), fun _ => Is (.pointer (some ⟨(ad1.add (k * 3)).block, (ad1.add (k * 3)).off + 2, none⟩)), fun _ => Is (.int .i64 tear), fun _ => fun w v => ∃ x1 x2, v = .tuple #[.agg #[x1, x2], .int .i64 er] ∧ Bs w x1 r.1.1 ∧ Bs w x2 r.1.2, fun _ => fun w v => ∃ x1 x2, v = .tuple #[.agg #[x1, x2], .int .i64 er] ∧ Bs w x1 r.1.1 ∧ Bs w x2 r.1.2, fun _ => fun w v => ∃ x1 x2, v = .agg #[x1, x2] ∧ Bs w x1 r.1.1 ∧ Bs w x2 r.1.2, fun _ => Is (.int .i64 er), fun _ => fun w v => ∃ C, v = .pointer (some ⟨C, 0, none⟩) ∧ W ≤ C ∧ Rec w C 24 #[.slice none 0 0, .slice none 0 0], fun u w v => ∃ C x1 x2, u 15 = .pointer (some ⟨C, 0, none⟩) ∧ W ≤ C ∧ Rec w C 24 #[x1, x2] ∧ Bs w x1 r.1.1 ∧ Bs w x2 r.1.2, fun _ => Is (.int .i64 er)] (fun i w' => i = 0 → Rec w' D 24 #[.slice Av a.length cv, .slice Aw b.length cw])
          case mono => exact ⟨fun u => Is.st _, fun u => Is.st _, fun u => Is.st _, fun u => Is.st _, fun u => Is.st _, fun u => Is.st _, fun u => Is.st _, fun u => Is.st _, fun u => Is.st _, fun u => Is.st _, fun u => Is.st _, fun u => Say.st_of (fun w w' v he ⟨x1, x2, h1, h2, h3⟩ => ⟨x1, x2, h1, h2.ext he, h3.ext he⟩), fun u => Say.st_of (fun w w' v he ⟨x1, x2, h1, h2, h3⟩ => ⟨x1, x2, h1, h2.ext he, h3.ext he⟩), fun u => Say.st_of (fun w w' v he ⟨x1, x2, h1, h2, h3⟩ => ⟨x1, x2, h1, h2.ext he, h3.ext he⟩), fun u => Is.st _, fun u => Say.st_of (fun w w' v he ⟨C, h1, h2, h3⟩ => ⟨C, h1, h2, h3.ext he⟩), fun u => Say.st_of (fun w w' v he ⟨C, x1, x2, h0, h1, h2, h3, h4⟩ => ⟨C, x1, x2, h0, h1, h2.ext he, h3.ext he, h4.ext he⟩), fun u => Is.st _, True.intro⟩
          case loc => exact ⟨Loc.plain _, Loc.plain _, Loc.plain _, Loc.plain _, Loc.plain _, Loc.plain _, Loc.plain _, Loc.plain _, Loc.plain _, Loc.plain _, Loc.plain _, Loc.plain _, Loc.plain _, Loc.plain _, Loc.plain _, Loc.plain _, fun u u' w v h ⟨C, x1, x2, h0, h1, h2, h3, h4⟩ => ⟨C, x1, x2, by rw [← h 15 (by decide)]; exact h0, h1, h2, h3, h4⟩, Loc.plain _, True.intro⟩
          case monoS => exact fun i w w' he h e => (h e).ext he
          case startS => exact fun i e => RW.out
          case hF => intro u; simp only [fill, Nat.reduceAdd, List.setIfInBounds_toArray, List.set_cons_succ, List.set_cons_zero]; exact rfl
          case steps =>
            refine StepsR.cons ?_ ?_
            · intro u w1 K hE hS hU hd hK hW
              have hR := hS rfl
              refine if_run rfl ?_
              refine wp_load_row 24 (.tmp 4) rfl D rfl 24 _ (0, 0) _ hR Try.underlying24 rfl (by kernel_rfl) ?_
              exact hK _ _ (Below.refl _ _) rfl
            refine StepsR.cons ?_ ?_
            · intro u w1 K hE hS hU hd hK hW
              go_simp
              exact hK _ _ (Below.refl _ _) rfl
            refine StepsR.cons ?_ ?_
            · intro u w1 K hE hS hU hd hK hW
              go_simp
              exact hK _ _ (Below.refl _ _) rfl
            refine StepsR.cons ?_ ?_
            · intro u w1 K hE hS hU hd hK hW
              have d1 : u 1 = (.slice (some ad1) ss.length c1) := hd 1 rfl
              have d2 : u 2 = (.int .i64 (k : Int)) := hd 2 rfl
              simp only [d1, d2] at hK
              go_simp
              exact hK _ _ (Below.refl _ _) rfl
            refine StepsR.cons ?_ ?_
            · intro u w1 K hE hS hU hd hK hW
              have d3 : u 3 = (.pointer (some (ad1.add (k * 3)))) := hd 3 rfl
              simp only [d3] at hK
              go_simp
              exact hK _ _ (Below.refl _ _) rfl
            refine StepsR.cons ?_ ?_
            · intro u w1 K hE hS hU hd hK hW
              have d4 : u 4 = (.pointer (some ⟨(ad1.add (k * 3)).block, (ad1.add (k * 3)).off + 1, none⟩)) := hd 4 rfl
              simp only [d4] at hK
              have hc := (show Ext wq w1 by have h := hE; rw [← HW.out] at h; exact h).cellAt HC1.out
              go_simp
              exact hK _ _ (Below.refl _ _) rfl
            refine StepsR.cons ?_ ?_
            · intro u w1 K hE hS hU hd hK hW
              go_simp
              exact hK _ _ (Below.refl _ _) rfl
            refine StepsR.cons ?_ ?_
            · intro u w1 K hE hS hU hd hK hW
              go_simp
              exact hK _ _ (Below.refl _ _) rfl
            refine StepsR.cons ?_ ?_
            · intro u w1 K hE hS hU hd hK hW
              have d6 : u 6 = (.slice (some ad1) ss.length c1) := hd 6 rfl
              have d7 : u 7 = (.int .i64 (k : Int)) := hd 7 rfl
              simp only [d6, d7] at hK
              go_simp
              exact hK _ _ (Below.refl _ _) rfl
            refine StepsR.cons ?_ ?_
            · intro u w1 K hE hS hU hd hK hW
              have d8 : u 8 = (.pointer (some (ad1.add (k * 3)))) := hd 8 rfl
              simp only [d8] at hK
              go_simp
              exact hK _ _ (Below.refl _ _) rfl
            refine StepsR.cons ?_ ?_
            · intro u w1 K hE hS hU hd hK hW
              have d9 : u 9 = (.pointer (some ⟨(ad1.add (k * 3)).block, (ad1.add (k * 3)).off + 2, none⟩)) := hd 9 rfl
              simp only [d9] at hK
              have hc := (show Ext wq w1 by have h := hE; rw [← HW.out] at h; exact h).cellAt HC2.out
              go_simp
              exact hK _ _ (Below.refl _ _) rfl
            refine StepsR.cons ?_ ?_
            · intro u w1 K hE hS hU hd hK hW
              have d0 : u 0 = (.agg #[.slice Av a.length cv, .slice Aw b.length cw]) := hd 0 rfl
              have d5 : u 5 = (.slice B1 sp.length d1) := hd 5 rfl
              have d10 : u 10 = (.int .i64 tear) := hd 10 rfl
              simp only [d0, d5, d10] at hK
              go_simp
              have hX := (show Ext wq w1 by have h := hE; rw [← HW.out] at h; exact h)
              have hC := appendB (tear := tear) (BV1.out.ext hX) (BV2.out.ext hX) (HR1.out.ext hX) (by omega) (by omega) (by omega) ht1 ht2
              rw [Hr.out] at hC
              unfold RetDisk at hC
              rw [HSE.out] at hC
              refine hC.mono ?_
              rintro e w5 ⟨x1, x2, rfl, hx1, hx2, hb5⟩
              exact hK _ _ hb5 ⟨x1, x2, rfl, hx1, hx2⟩
            refine StepsR.cons ?_ ?_
            · intro u w1 K hE hS hU hd hK hW
              obtain ⟨x111, x211, d11, h11_1, h11_2⟩ : ∃ x111 x211, u 11 = .tuple #[.agg #[x111, x211], .int .i64 er] ∧ Bs w1 x111 r.1.1 ∧ Bs w1 x211 r.1.2 := hd 11 rfl
              simp only [d11] at hK
              go_simp
              exact hK _ _ (Below.refl _ _) ⟨x111, x211, rfl, h11_1, h11_2⟩
            refine StepsR.cons ?_ ?_
            · intro u w1 K hE hS hU hd hK hW
              obtain ⟨x112, x212, d12, h12_1, h12_2⟩ : ∃ x112 x212, u 12 = .tuple #[.agg #[x112, x212], .int .i64 er] ∧ Bs w1 x112 r.1.1 ∧ Bs w1 x212 r.1.2 := hd 12 rfl
              simp only [d12] at hK
              go_simp
              exact hK _ _ (Below.refl _ _) ⟨x112, x212, rfl, h12_1, h12_2⟩
            refine StepsR.cons ?_ ?_
            · intro u w1 K hE hS hU hd hK hW
              obtain ⟨x112, x212, d12, h12_1, h12_2⟩ : ∃ x112 x212, u 12 = .tuple #[.agg #[x112, x212], .int .i64 er] ∧ Bs w1 x112 r.1.1 ∧ Bs w1 x212 r.1.2 := hd 12 rfl
              simp only [d12] at hK
              go_simp
              exact hK _ _ (Below.refl _ _) rfl
            refine StepsR.cons ?_ ?_
            · intro u w1 K hE hS hU hd hK hW
              go_simp
              exact hK _ _ (Ext.a1 _ _) ⟨_, rfl, (by have := hE.size; have := HW.out; omega), Rec.new _ _ _⟩
            refine StepsR.cons ?_ ?_
            · intro u w1 K hE hS hU hd hK hW
              obtain ⟨x113, x213, d13, h13_1, h13_2⟩ : ∃ x113 x213, u 13 = .agg #[x113, x213] ∧ Bs w1 x113 r.1.1 ∧ Bs w1 x213 r.1.2 := hd 13 rfl
              obtain ⟨C15, d15, h15_1, h15_2⟩ : ∃ C15, u 15 = .pointer (some ⟨C15, 0, none⟩) ∧ W ≤ C15 ∧ Rec w1 C15 24 #[.slice none 0 0, .slice none 0 0] := hd 15 rfl
              refine if_run rfl ?_
              refine wp_store_row 24 (.tmp 11) (.tmp 78) rfl C15 _ d15 d13 24 _ h15_2 (by kernel_rfl) rfl (by simp [h13_1.cell1, h13_2.cell1]) ?_
              have hg := grown_setRow w1 C15 #[x113, x213]
              have ht := Turns.ofRec (B := W) h15_2 (by decide) h15_1
              exact hW undef _ (Below.grown (Below.refl W w1) hg (by have := hE.size; have := HW.out; omega) (fun k e => (ht k e).1)) ⟨fun _ _ h => h, fun _ _ h => h, fun _ _ h => h, fun _ _ h => h, fun _ _ h => h, fun _ _ h => h, fun _ _ h => h, fun _ _ h => h, fun _ _ h => h, fun _ _ h => h, fun _ _ h => h, fun hk => absurd hk (by decide), fun hk v ⟨x1, x2, e, k1, k2⟩ => ⟨x1, x2, e, k1.rec h15_2 Hn0.out hg, k2.rec h15_2 Hn0.out hg⟩, fun hk => absurd hk (by decide), fun _ _ h => h, fun hk => absurd hk (by decide), fun hk => absurd hk (by decide), fun _ _ h => h, True.intro⟩ (fun k hk h e => (h e).turned hg (by intro e2; injection e2 with e2; omega))  ⟨C15, x113, x213, d15, h15_1, h15_2.setRow _, h13_1.rec h15_2 Hn0.out hg, h13_2.rec h15_2 Hn0.out hg⟩
            refine StepsR.cons ?_ ?_
            · intro u w1 K hE hS hU hd hK hW
              have d14 : u 14 = (.int .i64 er) := hd 14 rfl
              simp only [d14] at hK
              go_simp
              exact hK _ _ (Below.refl _ _) rfl
            exact StepsR.nil
          case fin =>
            intro u w9 hE9 hP
            
            have d17 : u 17 = (.int .i64 er) := hP 17 (by decide) (by decide)
            simp only [d17]
            obtain ⟨C, x1, x2, e10, hC, hRC, hx1, hx2⟩ := hP 16 (by decide) (by decide)
            simp only [e10]
            have hX9 : Ext wq w9 := by have h := hE9; rw [← HW.out] at h; exact h
            have HE9 := Lib.hid (HE.out.trans' hX9)
            have RW9 := Lib.hid (show w9.heap[D]? = some (.cells _ 24 (0, 0)) from RW.out.ext hX9)
            have RC9 := Lib.hid hRC
            have X1 := Lib.hid hx1
            have X2 := Lib.hid hx2
            have LW9 := Lib.hid (LW.out.ext hX9)
            have cx1 := hx1.cell1
            have cx2 := hx2.cell1
            have hc19 := hX9.cellAt HC1.out
            have hc29 := hX9.cellAt HC2.out
            have HR19 := Lib.hid (HR1.out.ext hX9)
            clear hE9 hP hX9 hRC hx1 hx2 hc1 hc2
            obtain ⟨wm, hwm⟩ : ∃ wm, w9 = wm := ⟨_, rfl⟩
            subst hwm
            cases tz with
            | true =>
              have h0 : tear = 0 := by simpa using Htz
              have hwh : tear = 0 ∨ (fr.length : Int) < tear := .inl h0
              have HNE := LW9.out.1.ne RW9.out (by decide)
              have HNC := LW9.out.1.ne RC9.out (by decide)
              have HKN := HKN'
              rw [if_pos hwh] at HKN
              go_wp2_with first
                | (at_builtin; go_must (refine wpList_append_lists st52 rfl (.tmp 101) (.tmp 107) rfl (LW9.out.ext (Ext.a1 _ _)) rfl rfl rfl (ls_one (Boxed.new _ _ _).cell (HR19.out.ext (Ext.a1 _ _))) (by omega) (by have := HE9.out.size; simp; omega) ?_); intro A3 c3 wa hls3 hg3; obtain ⟨wn, Hwn⟩ : ∃ wn, Hid (want ++ [sp] = wn) := ⟨_, Lib.hid rfl⟩; have hwl : want.length + 1 = wn.length := (by rw [← Hwn.out]; simp); rw [Hwn.out] at hls3 HKN; rw [hwl] at hls3 ⊢; have LWs := Lib.hid hls3; have HEs := Lib.hid (Below.grown (HE9.out.alloc' _) hg3 (by have := HE9.out.size; simp; omega) (fun g e => (LW9.out.1.lt g e).1)); have hnb := (LW9.out.ext (Ext.a1 w9 (.cells #[.slice B1 sp.length d1] 22))).2; have RWs := Lib.hid (show wa.heap[D]? = some (.cells _ 24 (0, 0)) from Rec.turned (Rec.ext (show Rec w9 D 24 _ from RW9.out) (Ext.a1 _ _)) hg3 HNE); have RCs := Lib.hid (show Rec wa C 24 #[x1, x2] from Rec.turned (RC9.out.ext (Ext.a1 _ _)) hg3 HNC); have X1s := Lib.hid ((X1.out.ext (Ext.a1 _ _)).noB hnb hg3); have X2s := Lib.hid ((X2.out.ext (Ext.a1 _ _)).noB hnb hg3); clear hls3 hg3 hnb)
                | (with_reducible refine wpList_load_row rfl 24 _ rfl C rfl 24 _ (0, 0) _ RCs.out Try.underlying24 rfl (by kernel_rfl) ?_)
                | (refine wpList_store_rec rfl 24 _ _ rfl D _ rfl rfl 24 _ RWs.out (by kernel_rfl) rfl (by simp [cx1, cx2]) w HEs.out (by omega) ?_; intro wz hbz hblkz hgz hsz; have HEz := Lib.hid hbz; have RWz := Lib.hid (show Rec wz D 24 #[x1, x2] from hblkz); have X1z := Lib.hid (X1s.out.rec RWs.out Hn1.out hgz); have X2z := Lib.hid (X2s.out.rec RWs.out Hn1.out hgz); have LWz := Lib.hid (LWs.out.rec RWs.out (by decide) Hn1.out hgz); clear hbz hblkz hgz hsz)
                | (with_reducible refine wpList_load_row rfl 24 _ rfl D rfl 24 _ (0, 0) _ RWz.out Try.underlying24 rfl (by kernel_rfl) ?_)
              have hna := HKN.out.la
              have hnb := HKN.out.lb
              have hnm := HKN.out.many
              obtain ⟨xa, xb, hop1, hop2, hxa, hxb⟩ := HKN.out.opened
              have HOP1 := Lib.hid hop1
              have HOP2 := Lib.hid hop2
              clear hop1 hop2
              have HQ := openB X1z.out X2z.out (by omega) (by omega)
              rw [HOP1.out] at HQ
              refine HQ.mono ?_
              rintro e y1 ⟨o1, o2, Ao, co, rfl, ho1, ho2, hco, hlo, hby1⟩
              have HEy1 := Lib.hid (HEz.out.trans' hby1)
              have RWy1 := Lib.hid (RWz.out.ext hby1)
              have X1y1 := Lib.hid (X1z.out.ext hby1)
              have X2y1 := Lib.hid (X2z.out.ext hby1)
              have LWy1 := Lib.hid (LWz.out.ext hby1)
              have O1 := Lib.hid ho1
              have O2 := Lib.hid ho2
              have LO := Lib.hid hlo
              have co1 := ho1.cell1
              have co2 := ho2.cell1
              clear HQ ho1 ho2 hlo hby1
              go_wp2_with first
                | (refine wpList_store_named rfl 24 _ _ rfl y1.heap.size _ rfl rfl 24 _ (heap_alloc_new _ _) (by kernel_rfl) rfl (by simp [co1, co2]) y1 (Ext.a1 _ _) (Nat.le_refl _) ?_; intro y2 hby2 hblk hsy hoy; have RO := Lib.hid (show Rec y2 y1.heap.size 24 #[o1, o2] from hblk); have HEy2 := Lib.hid (HEy1.out.trans' hby2); have RWy2 := Lib.hid (RWy1.out.ext hby2); have X1y2 := Lib.hid (X1y1.out.ext hby2); have X2y2 := Lib.hid (X2y1.out.ext hby2); have LWy2 := Lib.hid (LWy1.out.ext hby2); have O1y2 := Lib.hid (O1.out.ext hby2); have O2y2 := Lib.hid (O2.out.ext hby2); have LOy2 := Lib.hid (LO.out.ext hby2); clear hby2 hblk hsy hoy)
                | (with_reducible refine wpList_load_row rfl 24 _ rfl y1.heap.size rfl 24 _ (0, 0) _ RO.out Try.underlying24 rfl (by kernel_rfl) ?_)
              have HQ := openB O1y2.out O2y2.out (by omega) (by omega)
              rw [HOP2.out] at HQ
              refine HQ.mono ?_
              rintro e y3 ⟨q1, q2, Aq, cq, rfl, hq1, hq2, hcq, hlq, hby3⟩
              have HEy3 := Lib.hid (HEy2.out.trans' hby3)
              have RWy3 := Lib.hid (RWy2.out.ext hby3)
              have X1y3 := Lib.hid (X1y2.out.ext hby3)
              have X2y3 := Lib.hid (X2y2.out.ext hby3)
              have LWy3 := Lib.hid (LWy2.out.ext hby3)
              have O1y3 := Lib.hid (O1y2.out.ext hby3)
              have O2y3 := Lib.hid (O2y2.out.ext hby3)
              have LOy3 := Lib.hid (LOy2.out.ext hby3)
              have ROy3 := Lib.hid (RO.out.ext hby3)
              have Q1 := Lib.hid hq1
              have Q2 := Lib.hid hq2
              have LQ := Lib.hid hlq
              have cq1 := hq1.cell1
              have cq2 := hq2.cell1
              have hOq : y1.heap.size < y3.heap.size := ROy3.out.lt
              clear HQ hq1 hq2 hlq hby3
              go_wp2_with first
                | (refine wpList_store_named rfl 24 _ _ rfl y3.heap.size _ rfl rfl 24 _ (heap_alloc_new _ _) (by kernel_rfl) rfl (by simp [cq1, cq2]) y3 (Ext.a1 _ _) (Nat.le_refl _) ?_; intro y4 hby4 hblk hsy hoy; have RQ := Lib.hid (show Rec y4 y3.heap.size 24 #[q1, q2] from hblk); have HEy4 := Lib.hid (HEy3.out.trans' hby4); have RWy4 := Lib.hid (RWy3.out.ext hby4); have X1y4 := Lib.hid (X1y3.out.ext hby4); have X2y4 := Lib.hid (X2y3.out.ext hby4); have LWy4 := Lib.hid (LWy3.out.ext hby4); have O1y4 := Lib.hid (O1y3.out.ext hby4); have O2y4 := Lib.hid (O2y3.out.ext hby4); have LOy4 := Lib.hid (LOy3.out.ext hby4); have ROy4 := Lib.hid (ROy3.out.ext hby4); have Q1y4 := Lib.hid (Q1.out.ext hby4); have Q2y4 := Lib.hid (Q2.out.ext hby4); have LQy4 := Lib.hid (LQ.out.ext hby4); clear hby4 hblk hsy hoy)
              have HQ := same_any Ao A3 co c3 wn wn y4 (by omega) (by omega) LOy4.out LWy4.out.1.ls
              simp only [beq_self_eq_true] at HQ
              refine HQ.mono ?_
              rintro e y5 ⟨rfl, hby5⟩
              have HEy5 := Lib.hid (HEy4.out.trans' hby5)
              have RWy5 := Lib.hid (RWy4.out.ext hby5)
              have X1y5 := Lib.hid (X1y4.out.ext hby5)
              have X2y5 := Lib.hid (X2y4.out.ext hby5)
              have LWy5 := Lib.hid (LWy4.out.ext hby5)
              have O1y5 := Lib.hid (O1y4.out.ext hby5)
              have O2y5 := Lib.hid (O2y4.out.ext hby5)
              have ROy5 := Lib.hid (ROy4.out.ext hby5)
              have RQy5 := Lib.hid (RQ.out.ext hby5)
              have Q1y5 := Lib.hid (Q1y4.out.ext hby5)
              have Q2y5 := Lib.hid (Q2y4.out.ext hby5)
              have LQy5 := Lib.hid (LQy4.out.ext hby5)
              clear HQ hby5
              go_wp2_with fail
              have HQ := same_any Aq A3 cq c3 wn wn y5 (by omega) (by omega) LQy5.out LWy5.out.1.ls
              simp only [beq_self_eq_true] at HQ
              refine HQ.mono ?_
              rintro e y6 ⟨rfl, hby6⟩
              have HEy6 := Lib.hid (HEy5.out.trans' hby6)
              have RWy6 := Lib.hid (RWy5.out.ext hby6)
              have X1y6 := Lib.hid (X1y5.out.ext hby6)
              have X2y6 := Lib.hid (X2y5.out.ext hby6)
              have LWy6 := Lib.hid (LWy5.out.ext hby6)
              have O1y6 := Lib.hid (O1y5.out.ext hby6)
              have O2y6 := Lib.hid (O2y5.out.ext hby6)
              have ROy6 := Lib.hid (ROy5.out.ext hby6)
              have RQy6 := Lib.hid (RQy5.out.ext hby6)
              have Q1y6 := Lib.hid (Q1y5.out.ext hby6)
              have Q2y6 := Lib.hid (Q2y5.out.ext hby6)
              have g0 := ROy6.out.cell (i := 0) rfl
              have g1 := ROy6.out.cell (i := 1) rfl
              have g2 := RQy6.out.cell (i := 0) rfl
              have g3 := RQy6.out.cell (i := 1) rfl
              clear HQ hby6
              go_wp2_with fail
              have HQ := sameB O1y6.out O2y6.out Q1y6.out Q2y6.out
              simp only [beq_self_eq_true, Bool.and_self] at HQ
              refine HQ.mono ?_
              rintro e y7 ⟨rfl, hby7⟩
              have HEy7 := Lib.hid (HEy6.out.trans' hby7)
              have RWy7 := Lib.hid (RWy6.out.ext hby7)
              have X1y7 := Lib.hid (X1y6.out.ext hby7)
              have X2y7 := Lib.hid (X2y6.out.ext hby7)
              have LWy7 := Lib.hid (LWy6.out.ext hby7)
              clear HQ hby7
              go_wp2_with fail
              go_roundw
              case rel => exact ⟨k + 1, x1, x2, _, _, wn, A3, c3, by omega, by go_num, rfl, RWy7.out, X1y7.out, X2y7.out, HKN.out, LWy7.out, HEy7.out⟩
              case measure => simp [intOf]; omega
            | false =>
              have h0 : tear ≠ 0 := by simpa using Htz
              by_cases hgt : (fr.length : Int) < tear
              · have hwh : tear = 0 ∨ (fr.length : Int) < tear := .inr hgt
                have hd : decide ((fr.length : Int) < tear) = true := by simpa using hgt
                have HNE := LW9.out.1.ne RW9.out (by decide)
                have HNC := LW9.out.1.ne RC9.out (by decide)
                have HKN := HKN'
                rw [if_pos hwh] at HKN
                go_wp2_with first
                  | (at_builtin; go_must (refine wpList_append_lists st52 rfl (.tmp 101) (.tmp 107) rfl (LW9.out.ext (Ext.a1 _ _)) rfl rfl rfl (ls_one (Boxed.new _ _ _).cell (HR19.out.ext (Ext.a1 _ _))) (by omega) (by have := HE9.out.size; simp; omega) ?_); intro A3 c3 wa hls3 hg3; obtain ⟨wn, Hwn⟩ : ∃ wn, Hid (want ++ [sp] = wn) := ⟨_, Lib.hid rfl⟩; have hwl : want.length + 1 = wn.length := (by rw [← Hwn.out]; simp); rw [Hwn.out] at hls3 HKN; rw [hwl] at hls3 ⊢; have LWs := Lib.hid hls3; have HEs := Lib.hid (Below.grown (HE9.out.alloc' _) hg3 (by have := HE9.out.size; simp; omega) (fun g e => (LW9.out.1.lt g e).1)); have hnb := (LW9.out.ext (Ext.a1 w9 (.cells #[.slice B1 sp.length d1] 22))).2; have RWs := Lib.hid (show wa.heap[D]? = some (.cells _ 24 (0, 0)) from Rec.turned (Rec.ext (show Rec w9 D 24 _ from RW9.out) (Ext.a1 _ _)) hg3 HNE); have RCs := Lib.hid (show Rec wa C 24 #[x1, x2] from Rec.turned (RC9.out.ext (Ext.a1 _ _)) hg3 HNC); have X1s := Lib.hid ((X1.out.ext (Ext.a1 _ _)).noB hnb hg3); have X2s := Lib.hid ((X2.out.ext (Ext.a1 _ _)).noB hnb hg3); clear hls3 hg3 hnb)
                  | (with_reducible refine wpList_load_row rfl 24 _ rfl C rfl 24 _ (0, 0) _ RCs.out Try.underlying24 rfl (by kernel_rfl) ?_)
                  | (refine wpList_store_rec rfl 24 _ _ rfl D _ rfl rfl 24 _ RWs.out (by kernel_rfl) rfl (by simp [cx1, cx2]) w HEs.out (by omega) ?_; intro wz hbz hblkz hgz hsz; have HEz := Lib.hid hbz; have RWz := Lib.hid (show Rec wz D 24 #[x1, x2] from hblkz); have X1z := Lib.hid (X1s.out.rec RWs.out Hn1.out hgz); have X2z := Lib.hid (X2s.out.rec RWs.out Hn1.out hgz); have LWz := Lib.hid (LWs.out.rec RWs.out (by decide) Hn1.out hgz); clear hbz hblkz hgz hsz)
                  | (with_reducible refine wpList_load_row rfl 24 _ rfl D rfl 24 _ (0, 0) _ RWz.out Try.underlying24 rfl (by kernel_rfl) ?_)
                have hna := HKN.out.la
                have hnb := HKN.out.lb
                have hnm := HKN.out.many
                obtain ⟨xa, xb, hop1, hop2, hxa, hxb⟩ := HKN.out.opened
                have HOP1 := Lib.hid hop1
                have HOP2 := Lib.hid hop2
                clear hop1 hop2
                have HQ := openB X1z.out X2z.out (by omega) (by omega)
                rw [HOP1.out] at HQ
                refine HQ.mono ?_
                rintro e y1 ⟨o1, o2, Ao, co, rfl, ho1, ho2, hco, hlo, hby1⟩
                have HEy1 := Lib.hid (HEz.out.trans' hby1)
                have RWy1 := Lib.hid (RWz.out.ext hby1)
                have X1y1 := Lib.hid (X1z.out.ext hby1)
                have X2y1 := Lib.hid (X2z.out.ext hby1)
                have LWy1 := Lib.hid (LWz.out.ext hby1)
                have O1 := Lib.hid ho1
                have O2 := Lib.hid ho2
                have LO := Lib.hid hlo
                have co1 := ho1.cell1
                have co2 := ho2.cell1
                clear HQ ho1 ho2 hlo hby1
                go_wp2_with first
                  | (refine wpList_store_named rfl 24 _ _ rfl y1.heap.size _ rfl rfl 24 _ (heap_alloc_new _ _) (by kernel_rfl) rfl (by simp [co1, co2]) y1 (Ext.a1 _ _) (Nat.le_refl _) ?_; intro y2 hby2 hblk hsy hoy; have RO := Lib.hid (show Rec y2 y1.heap.size 24 #[o1, o2] from hblk); have HEy2 := Lib.hid (HEy1.out.trans' hby2); have RWy2 := Lib.hid (RWy1.out.ext hby2); have X1y2 := Lib.hid (X1y1.out.ext hby2); have X2y2 := Lib.hid (X2y1.out.ext hby2); have LWy2 := Lib.hid (LWy1.out.ext hby2); have O1y2 := Lib.hid (O1.out.ext hby2); have O2y2 := Lib.hid (O2.out.ext hby2); have LOy2 := Lib.hid (LO.out.ext hby2); clear hby2 hblk hsy hoy)
                  | (with_reducible refine wpList_load_row rfl 24 _ rfl y1.heap.size rfl 24 _ (0, 0) _ RO.out Try.underlying24 rfl (by kernel_rfl) ?_)
                have HQ := openB O1y2.out O2y2.out (by omega) (by omega)
                rw [HOP2.out] at HQ
                refine HQ.mono ?_
                rintro e y3 ⟨q1, q2, Aq, cq, rfl, hq1, hq2, hcq, hlq, hby3⟩
                have HEy3 := Lib.hid (HEy2.out.trans' hby3)
                have RWy3 := Lib.hid (RWy2.out.ext hby3)
                have X1y3 := Lib.hid (X1y2.out.ext hby3)
                have X2y3 := Lib.hid (X2y2.out.ext hby3)
                have LWy3 := Lib.hid (LWy2.out.ext hby3)
                have O1y3 := Lib.hid (O1y2.out.ext hby3)
                have O2y3 := Lib.hid (O2y2.out.ext hby3)
                have LOy3 := Lib.hid (LOy2.out.ext hby3)
                have ROy3 := Lib.hid (RO.out.ext hby3)
                have Q1 := Lib.hid hq1
                have Q2 := Lib.hid hq2
                have LQ := Lib.hid hlq
                have cq1 := hq1.cell1
                have cq2 := hq2.cell1
                have hOq : y1.heap.size < y3.heap.size := ROy3.out.lt
                clear HQ hq1 hq2 hlq hby3
                go_wp2_with first
                  | (refine wpList_store_named rfl 24 _ _ rfl y3.heap.size _ rfl rfl 24 _ (heap_alloc_new _ _) (by kernel_rfl) rfl (by simp [cq1, cq2]) y3 (Ext.a1 _ _) (Nat.le_refl _) ?_; intro y4 hby4 hblk hsy hoy; have RQ := Lib.hid (show Rec y4 y3.heap.size 24 #[q1, q2] from hblk); have HEy4 := Lib.hid (HEy3.out.trans' hby4); have RWy4 := Lib.hid (RWy3.out.ext hby4); have X1y4 := Lib.hid (X1y3.out.ext hby4); have X2y4 := Lib.hid (X2y3.out.ext hby4); have LWy4 := Lib.hid (LWy3.out.ext hby4); have O1y4 := Lib.hid (O1y3.out.ext hby4); have O2y4 := Lib.hid (O2y3.out.ext hby4); have LOy4 := Lib.hid (LOy3.out.ext hby4); have ROy4 := Lib.hid (ROy3.out.ext hby4); have Q1y4 := Lib.hid (Q1.out.ext hby4); have Q2y4 := Lib.hid (Q2.out.ext hby4); have LQy4 := Lib.hid (LQ.out.ext hby4); clear hby4 hblk hsy hoy)
                have HQ := same_any Ao A3 co c3 wn wn y4 (by omega) (by omega) LOy4.out LWy4.out.1.ls
                simp only [beq_self_eq_true] at HQ
                refine HQ.mono ?_
                rintro e y5 ⟨rfl, hby5⟩
                have HEy5 := Lib.hid (HEy4.out.trans' hby5)
                have RWy5 := Lib.hid (RWy4.out.ext hby5)
                have X1y5 := Lib.hid (X1y4.out.ext hby5)
                have X2y5 := Lib.hid (X2y4.out.ext hby5)
                have LWy5 := Lib.hid (LWy4.out.ext hby5)
                have O1y5 := Lib.hid (O1y4.out.ext hby5)
                have O2y5 := Lib.hid (O2y4.out.ext hby5)
                have ROy5 := Lib.hid (ROy4.out.ext hby5)
                have RQy5 := Lib.hid (RQ.out.ext hby5)
                have Q1y5 := Lib.hid (Q1y4.out.ext hby5)
                have Q2y5 := Lib.hid (Q2y4.out.ext hby5)
                have LQy5 := Lib.hid (LQy4.out.ext hby5)
                clear HQ hby5
                go_wp2_with fail
                have HQ := same_any Aq A3 cq c3 wn wn y5 (by omega) (by omega) LQy5.out LWy5.out.1.ls
                simp only [beq_self_eq_true] at HQ
                refine HQ.mono ?_
                rintro e y6 ⟨rfl, hby6⟩
                have HEy6 := Lib.hid (HEy5.out.trans' hby6)
                have RWy6 := Lib.hid (RWy5.out.ext hby6)
                have X1y6 := Lib.hid (X1y5.out.ext hby6)
                have X2y6 := Lib.hid (X2y5.out.ext hby6)
                have LWy6 := Lib.hid (LWy5.out.ext hby6)
                have O1y6 := Lib.hid (O1y5.out.ext hby6)
                have O2y6 := Lib.hid (O2y5.out.ext hby6)
                have ROy6 := Lib.hid (ROy5.out.ext hby6)
                have RQy6 := Lib.hid (RQy5.out.ext hby6)
                have Q1y6 := Lib.hid (Q1y5.out.ext hby6)
                have Q2y6 := Lib.hid (Q2y5.out.ext hby6)
                have g0 := ROy6.out.cell (i := 0) rfl
                have g1 := ROy6.out.cell (i := 1) rfl
                have g2 := RQy6.out.cell (i := 0) rfl
                have g3 := RQy6.out.cell (i := 1) rfl
                clear HQ hby6
                go_wp2_with fail
                have HQ := sameB O1y6.out O2y6.out Q1y6.out Q2y6.out
                simp only [beq_self_eq_true, Bool.and_self] at HQ
                refine HQ.mono ?_
                rintro e y7 ⟨rfl, hby7⟩
                have HEy7 := Lib.hid (HEy6.out.trans' hby7)
                have RWy7 := Lib.hid (RWy6.out.ext hby7)
                have X1y7 := Lib.hid (X1y6.out.ext hby7)
                have X2y7 := Lib.hid (X2y6.out.ext hby7)
                have LWy7 := Lib.hid (LWy6.out.ext hby7)
                clear HQ hby7
                go_wp2_with fail
                go_roundw
                case rel => exact ⟨k + 1, x1, x2, _, _, wn, A3, c3, by omega, by go_num, rfl, RWy7.out, X1y7.out, X2y7.out, HKN.out, LWy7.out, HEy7.out⟩
                case measure => simp [intOf]; omega
              · have hwh : ¬ (tear = 0 ∨ (fr.length : Int) < tear) := by omega
                have hd : decide ((fr.length : Int) < tear) = false := by simpa using hgt
                have HKN := HKN'
                rw [if_neg hwh] at HKN
                have HEs := HE9
                have RWs := RW9
                have X1s := X1
                have X2s := X2
                have LWs := LW9
                go_wp2_with first
                  | (with_reducible refine wpList_load_row rfl 24 _ rfl C rfl 24 _ (0, 0) _ RC9.out Try.underlying24 rfl (by kernel_rfl) ?_)
                  | (refine wpList_store_rec rfl 24 _ _ rfl D _ rfl rfl 24 _ RWs.out (by kernel_rfl) rfl (by simp [cx1, cx2]) w HEs.out (by omega) ?_; intro wz hbz hblkz hgz hsz; have HEz := Lib.hid hbz; have RWz := Lib.hid (show Rec wz D 24 #[x1, x2] from hblkz); have X1z := Lib.hid (X1s.out.rec RWs.out Hn1.out hgz); have X2z := Lib.hid (X2s.out.rec RWs.out Hn1.out hgz); have LWz := Lib.hid (LWs.out.rec RWs.out (by decide) Hn1.out hgz); clear hbz hblkz hgz hsz)
                  | (with_reducible refine wpList_load_row rfl 24 _ rfl D rfl 24 _ (0, 0) _ RWz.out Try.underlying24 rfl (by kernel_rfl) ?_)
                have hna := HKN.out.la
                have hnb := HKN.out.lb
                have hnm := HKN.out.many
                obtain ⟨xa, xb, hop1, hop2, hxa, hxb⟩ := HKN.out.opened
                have HOP1 := Lib.hid hop1
                have HOP2 := Lib.hid hop2
                clear hop1 hop2
                have HQ := openB X1z.out X2z.out (by omega) (by omega)
                rw [HOP1.out] at HQ
                refine HQ.mono ?_
                rintro e y1 ⟨o1, o2, Ao, co, rfl, ho1, ho2, hco, hlo, hby1⟩
                have HEy1 := Lib.hid (HEz.out.trans' hby1)
                have RWy1 := Lib.hid (RWz.out.ext hby1)
                have X1y1 := Lib.hid (X1z.out.ext hby1)
                have X2y1 := Lib.hid (X2z.out.ext hby1)
                have LWy1 := Lib.hid (LWz.out.ext hby1)
                have O1 := Lib.hid ho1
                have O2 := Lib.hid ho2
                have LO := Lib.hid hlo
                have co1 := ho1.cell1
                have co2 := ho2.cell1
                clear HQ ho1 ho2 hlo hby1
                go_wp2_with first
                  | (refine wpList_store_named rfl 24 _ _ rfl y1.heap.size _ rfl rfl 24 _ (heap_alloc_new _ _) (by kernel_rfl) rfl (by simp [co1, co2]) y1 (Ext.a1 _ _) (Nat.le_refl _) ?_; intro y2 hby2 hblk hsy hoy; have RO := Lib.hid (show Rec y2 y1.heap.size 24 #[o1, o2] from hblk); have HEy2 := Lib.hid (HEy1.out.trans' hby2); have RWy2 := Lib.hid (RWy1.out.ext hby2); have X1y2 := Lib.hid (X1y1.out.ext hby2); have X2y2 := Lib.hid (X2y1.out.ext hby2); have LWy2 := Lib.hid (LWy1.out.ext hby2); have O1y2 := Lib.hid (O1.out.ext hby2); have O2y2 := Lib.hid (O2.out.ext hby2); have LOy2 := Lib.hid (LO.out.ext hby2); clear hby2 hblk hsy hoy)
                  | (with_reducible refine wpList_load_row rfl 24 _ rfl y1.heap.size rfl 24 _ (0, 0) _ RO.out Try.underlying24 rfl (by kernel_rfl) ?_)
                have HQ := openB O1y2.out O2y2.out (by omega) (by omega)
                rw [HOP2.out] at HQ
                refine HQ.mono ?_
                rintro e y3 ⟨q1, q2, Aq, cq, rfl, hq1, hq2, hcq, hlq, hby3⟩
                have HEy3 := Lib.hid (HEy2.out.trans' hby3)
                have RWy3 := Lib.hid (RWy2.out.ext hby3)
                have X1y3 := Lib.hid (X1y2.out.ext hby3)
                have X2y3 := Lib.hid (X2y2.out.ext hby3)
                have LWy3 := Lib.hid (LWy2.out.ext hby3)
                have O1y3 := Lib.hid (O1y2.out.ext hby3)
                have O2y3 := Lib.hid (O2y2.out.ext hby3)
                have LOy3 := Lib.hid (LOy2.out.ext hby3)
                have ROy3 := Lib.hid (RO.out.ext hby3)
                have Q1 := Lib.hid hq1
                have Q2 := Lib.hid hq2
                have LQ := Lib.hid hlq
                have cq1 := hq1.cell1
                have cq2 := hq2.cell1
                have hOq : y1.heap.size < y3.heap.size := ROy3.out.lt
                clear HQ hq1 hq2 hlq hby3
                go_wp2_with first
                  | (refine wpList_store_named rfl 24 _ _ rfl y3.heap.size _ rfl rfl 24 _ (heap_alloc_new _ _) (by kernel_rfl) rfl (by simp [cq1, cq2]) y3 (Ext.a1 _ _) (Nat.le_refl _) ?_; intro y4 hby4 hblk hsy hoy; have RQ := Lib.hid (show Rec y4 y3.heap.size 24 #[q1, q2] from hblk); have HEy4 := Lib.hid (HEy3.out.trans' hby4); have RWy4 := Lib.hid (RWy3.out.ext hby4); have X1y4 := Lib.hid (X1y3.out.ext hby4); have X2y4 := Lib.hid (X2y3.out.ext hby4); have LWy4 := Lib.hid (LWy3.out.ext hby4); have O1y4 := Lib.hid (O1y3.out.ext hby4); have O2y4 := Lib.hid (O2y3.out.ext hby4); have LOy4 := Lib.hid (LOy3.out.ext hby4); have ROy4 := Lib.hid (ROy3.out.ext hby4); have Q1y4 := Lib.hid (Q1.out.ext hby4); have Q2y4 := Lib.hid (Q2.out.ext hby4); have LQy4 := Lib.hid (LQ.out.ext hby4); clear hby4 hblk hsy hoy)
                have HQ := same_any Ao Ax co cx want want y4 (by omega) (by omega) LOy4.out LWy4.out.1.ls
                simp only [beq_self_eq_true] at HQ
                refine HQ.mono ?_
                rintro e y5 ⟨rfl, hby5⟩
                have HEy5 := Lib.hid (HEy4.out.trans' hby5)
                have RWy5 := Lib.hid (RWy4.out.ext hby5)
                have X1y5 := Lib.hid (X1y4.out.ext hby5)
                have X2y5 := Lib.hid (X2y4.out.ext hby5)
                have LWy5 := Lib.hid (LWy4.out.ext hby5)
                have O1y5 := Lib.hid (O1y4.out.ext hby5)
                have O2y5 := Lib.hid (O2y4.out.ext hby5)
                have ROy5 := Lib.hid (ROy4.out.ext hby5)
                have RQy5 := Lib.hid (RQ.out.ext hby5)
                have Q1y5 := Lib.hid (Q1y4.out.ext hby5)
                have Q2y5 := Lib.hid (Q2y4.out.ext hby5)
                have LQy5 := Lib.hid (LQy4.out.ext hby5)
                clear HQ hby5
                go_wp2_with fail
                have HQ := same_any Aq Ax cq cx want want y5 (by omega) (by omega) LQy5.out LWy5.out.1.ls
                simp only [beq_self_eq_true] at HQ
                refine HQ.mono ?_
                rintro e y6 ⟨rfl, hby6⟩
                have HEy6 := Lib.hid (HEy5.out.trans' hby6)
                have RWy6 := Lib.hid (RWy5.out.ext hby6)
                have X1y6 := Lib.hid (X1y5.out.ext hby6)
                have X2y6 := Lib.hid (X2y5.out.ext hby6)
                have LWy6 := Lib.hid (LWy5.out.ext hby6)
                have O1y6 := Lib.hid (O1y5.out.ext hby6)
                have O2y6 := Lib.hid (O2y5.out.ext hby6)
                have ROy6 := Lib.hid (ROy5.out.ext hby6)
                have RQy6 := Lib.hid (RQy5.out.ext hby6)
                have Q1y6 := Lib.hid (Q1y5.out.ext hby6)
                have Q2y6 := Lib.hid (Q2y5.out.ext hby6)
                have g0 := ROy6.out.cell (i := 0) rfl
                have g1 := ROy6.out.cell (i := 1) rfl
                have g2 := RQy6.out.cell (i := 0) rfl
                have g3 := RQy6.out.cell (i := 1) rfl
                clear HQ hby6
                go_wp2_with fail
                have HQ := sameB O1y6.out O2y6.out Q1y6.out Q2y6.out
                simp only [beq_self_eq_true, Bool.and_self] at HQ
                refine HQ.mono ?_
                rintro e y7 ⟨rfl, hby7⟩
                have HEy7 := Lib.hid (HEy6.out.trans' hby7)
                have RWy7 := Lib.hid (RWy6.out.ext hby7)
                have X1y7 := Lib.hid (X1y6.out.ext hby7)
                have X2y7 := Lib.hid (X2y6.out.ext hby7)
                have LWy7 := Lib.hid (LWy6.out.ext hby7)
                clear HQ hby7
                go_wp2_with fail
                go_roundw
                case rel => exact ⟨k + 1, x1, x2, _, _, want, Ax, cx, by omega, by go_num, rfl, RWy7.out, X1y7.out, X2y7.out, HKN.out, LWy7.out, HEy7.out⟩
                case measure => simp [intOf]; omega
      · obtain rfl : k = ss.length := by omega
        go_wp2_with fail
        go_ret
        exact ⟨rfl, HE.out⟩
end Go.Proofs.Ytjcngipaeoegcaa
