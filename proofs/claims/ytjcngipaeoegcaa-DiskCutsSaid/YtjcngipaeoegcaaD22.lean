/-
  Disks: it does not matter whether a disk is opened ahead. Printed by g22.py.
-/
import Derived.Test.YtjcngipaeoegcaaM4
import Derived.Test.YtjcngipaeoegcaaD6
import Derived.Test.YtjcngipaeoegcaaM1
namespace Go.Proofs.Ytjcngipaeoegcaa
open Go.RowKit
set_option allowUnsafeReducibility true
attribute [local reducible] Rec

set_option maxRecDepth 100000 in
set_option maxHeartbeats 4000000 in
theorem cuts_any (v1 v2 vp : Value) (a b p : List UInt8) (tear : Int) (w : World) (ht1 : -9223372036854775808 ≤ tear) (ht2 : tear ≤ 9223372036854775807) (h1 : Bs w v1 a) (h2 : Bs w v2 b) (h3 : Bs w vp p) :
    Calls Try.prog 5 #[.agg #[v1, v2], vp, .int .i64 tear] w fun e w' => e = .returned (.bool true) ∧ Ext w w' := by
  have H1 := Lib.hid h1
  have H2 := Lib.hid h2
  have H3 := Lib.hid h3
  obtain ⟨A, c, rfl, hc, _⟩ := h1
  obtain ⟨A', c', rfl, hc', _⟩ := h2
  obtain ⟨A2, c2, rfl, hc2, _⟩ := h3
  have hcd : (#[.slice A a.length c, .slice A' b.length c'] : Array Value).all (·.oneCell') = true := by simp [Value.oneCell']
  obtain ⟨D, HD⟩ : ∃ D, Hid (w.heap.size = D) := ⟨_, Lib.hid rfl⟩
  obtain ⟨wx, Hwx⟩ : ∃ wx, Hid (w.alloc (.cells #[.slice A a.length c, .slice A' b.length c'] 24) = wx) := ⟨_, Lib.hid rfl⟩
  have HE := Lib.hid (show Ext w wx by rw [← Hwx.out]; exact Ext.a1 _ _)
  have D0 := Lib.hid (show Rec wx D 24 #[.slice A a.length c, .slice A' b.length c'] by rw [← Hwx.out, ← HD.out]; exact Rec.new w _ _)
  have BA := Lib.hid (H1.out.ext HE.out)
  have BB := Lib.hid (H2.out.ext HE.out)
  have BP := Lib.hid (H3.out.ext HE.out)
  clear H1 H2 H3
  go_enter Try.func5, Try.ntmps5
  go_wp2_with fail
  rw [Hwx.out, HD.out]
  clear Hwx
  have HE0 := HE
  have BA0 := BA
  have BB0 := BB
  have BP0 := BP
  clear HE BA BB BP
  refine (awake_any wx).mono ?_
  rintro e w1 ⟨rfl, hb1⟩
  have HE1 := Lib.hid (HE0.out.trans' hb1)
  have D1 := Lib.hid (D0.out.ext hb1)
  have BA1 := Lib.hid (BA0.out.ext hb1)
  have BB1 := Lib.hid (BB0.out.ext hb1)
  have BP1 := Lib.hid (BP0.out.ext hb1)
  clear HE0 D0 BA0 BB0 BP0
  clear hb1
  go_wp2_with (with_reducible refine wpList_load_row rfl 24 _ rfl D rfl 24 _ (0, 0) _ D1.out Try.underlying24 rfl (by kernel_rfl) ?_)
  have HQ := fewB BA1.out BB1.out
  obtain ⟨fb, Hfb⟩ : ∃ fb, Hid ((decide (a.length ≤ 3000) && decide (b.length ≤ 3000)) = fb) := ⟨_, Lib.hid rfl⟩
  rw [Hfb.out] at HQ
  refine (HQ).mono ?_
  rintro e w2 ⟨rfl, hb2⟩
  have HE2 := Lib.hid (HE1.out.trans' hb2)
  have D2 := Lib.hid (D1.out.ext hb2)
  have BA2 := Lib.hid (BA1.out.ext hb2)
  have BB2 := Lib.hid (BB1.out.ext hb2)
  have BP2 := Lib.hid (BP1.out.ext hb2)
  clear HE1 D1 BA1 BB1 BP1
  clear HQ hb2
  cases fb with
  | false =>
    go_wp2_with fail
    go_ret
    exact ⟨rfl, HE2.out⟩
  | true =>
    have hfew : a.length ≤ 3000 ∧ b.length ≤ 3000 := by have := Hfb.out; simp at this; exact this
    have ha := hfew.1
    have hb := hfew.2
    clear hfew Hfb
    by_cases hp3 : 3000 < p.length
    · have hd : decide ((3000 : Int) < (p.length : Int)) = true := by simp; omega
      go_wp2_with fail
      go_ret
      exact ⟨rfl, HE2.out⟩
    · have hd : decide ((3000 : Int) < (p.length : Int)) = false := by simp; omega
      go_wp2_with (with_reducible refine wpList_load_row rfl 24 _ rfl D rfl 24 _ (0, 0) _ D2.out Try.underlying24 rfl (by kernel_rfl) ?_)
      cases hw : Disk.which a b with
      | none =>
        obtain ⟨e1, e2, e4⟩ := Disk.cuts_none hw p tear
        have E1 := Lib.hid e1
        have E2 := Lib.hid e2
        have E3 := Lib.hid e2
        have E4 := Lib.hid e4
        have E5 := Lib.hid e4
        have E6 := Lib.hid e1
        have E7 := Lib.hid e1
        clear e1 e2 e4 hw
        have HQ := openB BA2.out BB2.out (by omega) (by omega); rw [E1.out] at HQ
        refine (HQ).mono ?_
        rintro e w3 ⟨m1, m2, Am, cm, rfl, hm1, hm2, hcm, hlm, hb3⟩
        have HE3 := Lib.hid (HE2.out.trans' hb3)
        have D3 := Lib.hid (D2.out.ext hb3)
        have BA3 := Lib.hid (BA2.out.ext hb3)
        have BB3 := Lib.hid (BB2.out.ext hb3)
        have BP3 := Lib.hid (BP2.out.ext hb3)
        have m1_3 := Lib.hid (hm1)
        have m2_3 := Lib.hid (hm2)
        have LSm3 := Lib.hid (hlm)
        clear HE2 D2 BA2 BB2 BP2
        have km1 := hm1.cell1
        have km2 := hm2.cell1
        clear HQ hm1 hm2 hb3 hlm hcm
        go_wp2_with first
          | (refine wpList_store_named rfl 24 _ _ rfl w3.heap.size _ rfl rfl 24 _ (heap_alloc_new _ _) (by kernel_rfl) rfl (by simp [km1, km2]) w3 (Ext.a1 _ _) (Nat.le_refl _) ?_; intro w4 hb4 hblk4 hs4 ho4; have RA4 := Lib.hid (show Rec w4 _ 24 #[m1, m2] from hblk4); have HZ4 := Lib.hid (show w4.heap.size = w3.heap.size + 1 by rw [hs4]; simp); have HE4 := Lib.hid (HE3.out.trans' hb4); have D4 := Lib.hid (D3.out.ext hb4); have BA4 := Lib.hid (BA3.out.ext hb4); have BB4 := Lib.hid (BB3.out.ext hb4); have BP4 := Lib.hid (BP3.out.ext hb4); have m1_4 := Lib.hid (m1_3.out.ext hb4); have m2_4 := Lib.hid (m2_3.out.ext hb4); have LSm4 := Lib.hid (LSm3.out.ext hb4); clear HE3 D3 BA3 BB3 BP3 m1_3 m2_3 LSm3; clear hb4 hblk4 hs4 ho4)
          | (with_reducible refine wpList_load_row rfl 24 _ rfl D rfl 24 _ (0, 0) _ D4.out Try.underlying24 rfl (by kernel_rfl) ?_)
        have HQ := appendB (tear := tear) BA4.out BB4.out BP4.out (by omega) (by omega) (by omega) ht1 ht2; rw [E2.out] at HQ
        refine (HQ).mono ?_
        rintro e w5 ⟨s1, s2, rfl, hs1, hs2, hb5⟩
        have HE5 := Lib.hid (HE4.out.trans' hb5)
        have D5 := Lib.hid (D4.out.ext hb5)
        have BA5 := Lib.hid (BA4.out.ext hb5)
        have BB5 := Lib.hid (BB4.out.ext hb5)
        have BP5 := Lib.hid (BP4.out.ext hb5)
        have m1_5 := Lib.hid (m1_4.out.ext hb5)
        have m2_5 := Lib.hid (m2_4.out.ext hb5)
        have LSm5 := Lib.hid (LSm4.out.ext hb5)
        have RA5 := Lib.hid (RA4.out.ext hb5)
        have s1_5 := Lib.hid (hs1)
        have s2_5 := Lib.hid (hs2)
        clear HE4 D4 BA4 BB4 BP4 m1_4 m2_4 LSm4 RA4
        have ks1 := hs1.cell1
        have ks2 := hs2.cell1
        clear HQ hs1 hs2 hb5
        go_wp2_with first
          | (refine wpList_store_named rfl 24 _ _ rfl w5.heap.size _ rfl rfl 24 _ (heap_alloc_new _ _) (by kernel_rfl) rfl (by simp [ks1, ks2]) w5 (Ext.a1 _ _) (Nat.le_refl _) ?_; intro w6 hb6 hblk6 hs6 ho6; have RB6 := Lib.hid (show Rec w6 _ 24 #[s1, s2] from hblk6); have HZ6 := Lib.hid (show w6.heap.size = w5.heap.size + 1 by rw [hs6]; simp); have HE6 := Lib.hid (HE5.out.trans' hb6); have D6 := Lib.hid (D5.out.ext hb6); have BA6 := Lib.hid (BA5.out.ext hb6); have BB6 := Lib.hid (BB5.out.ext hb6); have BP6 := Lib.hid (BP5.out.ext hb6); have m1_6 := Lib.hid (m1_5.out.ext hb6); have m2_6 := Lib.hid (m2_5.out.ext hb6); have LSm6 := Lib.hid (LSm5.out.ext hb6); have RA6 := Lib.hid (RA5.out.ext hb6); have s1_6 := Lib.hid (s1_5.out.ext hb6); have s2_6 := Lib.hid (s2_5.out.ext hb6); clear HE5 D5 BA5 BB5 BP5 m1_5 m2_5 LSm5 RA5 s1_5 s2_5; clear hb6 hblk6 hs6 ho6)
          | (with_reducible refine wpList_load_row rfl 24 _ rfl w3.heap.size rfl 24 _ (0, 0) _ RA6.out Try.underlying24 rfl (by kernel_rfl) ?_)
        have HQ := appendB (tear := tear) m1_6.out m2_6.out BP6.out (by omega) (by omega) (by omega) ht1 ht2; rw [E3.out] at HQ
        refine (HQ).mono ?_
        rintro e w7 ⟨t1, t2, rfl, ht1, ht2, hb7⟩
        have HE7 := Lib.hid (HE6.out.trans' hb7)
        have D7 := Lib.hid (D6.out.ext hb7)
        have BA7 := Lib.hid (BA6.out.ext hb7)
        have BB7 := Lib.hid (BB6.out.ext hb7)
        have BP7 := Lib.hid (BP6.out.ext hb7)
        have m1_7 := Lib.hid (m1_6.out.ext hb7)
        have m2_7 := Lib.hid (m2_6.out.ext hb7)
        have LSm7 := Lib.hid (LSm6.out.ext hb7)
        have RA7 := Lib.hid (RA6.out.ext hb7)
        have s1_7 := Lib.hid (s1_6.out.ext hb7)
        have s2_7 := Lib.hid (s2_6.out.ext hb7)
        have RB7 := Lib.hid (RB6.out.ext hb7)
        have t1_7 := Lib.hid (ht1)
        have t2_7 := Lib.hid (ht2)
        clear HE6 D6 BA6 BB6 BP6 m1_6 m2_6 LSm6 RA6 s1_6 s2_6 RB6
        have kt1 := ht1.cell1
        have kt2 := ht2.cell1
        clear HQ ht1 ht2 hb7
        go_wp2_with first
          | (refine wpList_store_named rfl 24 _ _ rfl w7.heap.size _ rfl rfl 24 _ (heap_alloc_new _ _) (by kernel_rfl) rfl (by simp [kt1, kt2]) w7 (Ext.a1 _ _) (Nat.le_refl _) ?_; intro w8 hb8 hblk8 hs8 ho8; have RC8 := Lib.hid (show Rec w8 _ 24 #[t1, t2] from hblk8); have HZ8 := Lib.hid (show w8.heap.size = w7.heap.size + 1 by rw [hs8]; simp); have HE8 := Lib.hid (HE7.out.trans' hb8); have D8 := Lib.hid (D7.out.ext hb8); have BA8 := Lib.hid (BA7.out.ext hb8); have BB8 := Lib.hid (BB7.out.ext hb8); have BP8 := Lib.hid (BP7.out.ext hb8); have m1_8 := Lib.hid (m1_7.out.ext hb8); have m2_8 := Lib.hid (m2_7.out.ext hb8); have LSm8 := Lib.hid (LSm7.out.ext hb8); have RA8 := Lib.hid (RA7.out.ext hb8); have s1_8 := Lib.hid (s1_7.out.ext hb8); have s2_8 := Lib.hid (s2_7.out.ext hb8); have RB8 := Lib.hid (RB7.out.ext hb8); have t1_8 := Lib.hid (t1_7.out.ext hb8); have t2_8 := Lib.hid (t2_7.out.ext hb8); clear HE7 D7 BA7 BB7 BP7 m1_7 m2_7 LSm7 RA7 s1_7 s2_7 RB7 t1_7 t2_7; clear hb8 hblk8 hs8 ho8)
          | (with_reducible refine wpList_load_row rfl 24 _ rfl D rfl 24 _ (0, 0) _ D8.out Try.underlying24 rfl (by kernel_rfl) ?_)
        have HQ := snapB (tear := tear) BA8.out BB8.out (by omega) (by omega) ht1 ht2; rw [E4.out] at HQ
        refine (HQ).mono ?_
        rintro e w9 ⟨f1, f2, rfl, hf1, hf2, hb9⟩
        have HE9 := Lib.hid (HE8.out.trans' hb9)
        have D9 := Lib.hid (D8.out.ext hb9)
        have BA9 := Lib.hid (BA8.out.ext hb9)
        have BB9 := Lib.hid (BB8.out.ext hb9)
        have BP9 := Lib.hid (BP8.out.ext hb9)
        have m1_9 := Lib.hid (m1_8.out.ext hb9)
        have m2_9 := Lib.hid (m2_8.out.ext hb9)
        have LSm9 := Lib.hid (LSm8.out.ext hb9)
        have RA9 := Lib.hid (RA8.out.ext hb9)
        have s1_9 := Lib.hid (s1_8.out.ext hb9)
        have s2_9 := Lib.hid (s2_8.out.ext hb9)
        have RB9 := Lib.hid (RB8.out.ext hb9)
        have t1_9 := Lib.hid (t1_8.out.ext hb9)
        have t2_9 := Lib.hid (t2_8.out.ext hb9)
        have RC9 := Lib.hid (RC8.out.ext hb9)
        have f1_9 := Lib.hid (hf1)
        have f2_9 := Lib.hid (hf2)
        clear HE8 D8 BA8 BB8 BP8 m1_8 m2_8 LSm8 RA8 s1_8 s2_8 RB8 t1_8 t2_8 RC8
        have kf1 := hf1.cell1
        have kf2 := hf2.cell1
        clear HQ hf1 hf2 hb9
        go_wp2_with first
          | (refine wpList_store_named rfl 24 _ _ rfl w9.heap.size _ rfl rfl 24 _ (heap_alloc_new _ _) (by kernel_rfl) rfl (by simp [kf1, kf2]) w9 (Ext.a1 _ _) (Nat.le_refl _) ?_; intro w10 hb10 hblk10 hs10 ho10; have RF10 := Lib.hid (show Rec w10 _ 24 #[f1, f2] from hblk10); have HZ10 := Lib.hid (show w10.heap.size = w9.heap.size + 1 by rw [hs10]; simp); have HE10 := Lib.hid (HE9.out.trans' hb10); have D10 := Lib.hid (D9.out.ext hb10); have BA10 := Lib.hid (BA9.out.ext hb10); have BB10 := Lib.hid (BB9.out.ext hb10); have BP10 := Lib.hid (BP9.out.ext hb10); have m1_10 := Lib.hid (m1_9.out.ext hb10); have m2_10 := Lib.hid (m2_9.out.ext hb10); have LSm10 := Lib.hid (LSm9.out.ext hb10); have RA10 := Lib.hid (RA9.out.ext hb10); have s1_10 := Lib.hid (s1_9.out.ext hb10); have s2_10 := Lib.hid (s2_9.out.ext hb10); have RB10 := Lib.hid (RB9.out.ext hb10); have t1_10 := Lib.hid (t1_9.out.ext hb10); have t2_10 := Lib.hid (t2_9.out.ext hb10); have RC10 := Lib.hid (RC9.out.ext hb10); have f1_10 := Lib.hid (f1_9.out.ext hb10); have f2_10 := Lib.hid (f2_9.out.ext hb10); clear HE9 D9 BA9 BB9 BP9 m1_9 m2_9 LSm9 RA9 s1_9 s2_9 RB9 t1_9 t2_9 RC9 f1_9 f2_9; clear hb10 hblk10 hs10 ho10)
          | (with_reducible refine wpList_load_row rfl 24 _ rfl w3.heap.size rfl 24 _ (0, 0) _ RA10.out Try.underlying24 rfl (by kernel_rfl) ?_)
        have HQ := snapB (tear := tear) m1_10.out m2_10.out (by omega) (by omega) ht1 ht2; rw [E5.out] at HQ
        refine (HQ).mono ?_
        rintro e w11 ⟨g1, g2, rfl, hg1, hg2, hb11⟩
        have HE11 := Lib.hid (HE10.out.trans' hb11)
        have D11 := Lib.hid (D10.out.ext hb11)
        have BA11 := Lib.hid (BA10.out.ext hb11)
        have BB11 := Lib.hid (BB10.out.ext hb11)
        have BP11 := Lib.hid (BP10.out.ext hb11)
        have m1_11 := Lib.hid (m1_10.out.ext hb11)
        have m2_11 := Lib.hid (m2_10.out.ext hb11)
        have LSm11 := Lib.hid (LSm10.out.ext hb11)
        have RA11 := Lib.hid (RA10.out.ext hb11)
        have s1_11 := Lib.hid (s1_10.out.ext hb11)
        have s2_11 := Lib.hid (s2_10.out.ext hb11)
        have RB11 := Lib.hid (RB10.out.ext hb11)
        have t1_11 := Lib.hid (t1_10.out.ext hb11)
        have t2_11 := Lib.hid (t2_10.out.ext hb11)
        have RC11 := Lib.hid (RC10.out.ext hb11)
        have f1_11 := Lib.hid (f1_10.out.ext hb11)
        have f2_11 := Lib.hid (f2_10.out.ext hb11)
        have RF11 := Lib.hid (RF10.out.ext hb11)
        have g1_11 := Lib.hid (hg1)
        have g2_11 := Lib.hid (hg2)
        clear HE10 D10 BA10 BB10 BP10 m1_10 m2_10 LSm10 RA10 s1_10 s2_10 RB10 t1_10 t2_10 RC10 f1_10 f2_10 RF10
        have kg1 := hg1.cell1
        have kg2 := hg2.cell1
        clear HQ hg1 hg2 hb11
        go_wp2_with first
          | (refine wpList_store_named rfl 24 _ _ rfl w11.heap.size _ rfl rfl 24 _ (heap_alloc_new _ _) (by kernel_rfl) rfl (by simp [kg1, kg2]) w11 (Ext.a1 _ _) (Nat.le_refl _) ?_; intro w12 hb12 hblk12 hs12 ho12; have RG12 := Lib.hid (show Rec w12 _ 24 #[g1, g2] from hblk12); have HZ12 := Lib.hid (show w12.heap.size = w11.heap.size + 1 by rw [hs12]; simp); have HE12 := Lib.hid (HE11.out.trans' hb12); have D12 := Lib.hid (D11.out.ext hb12); have BA12 := Lib.hid (BA11.out.ext hb12); have BB12 := Lib.hid (BB11.out.ext hb12); have BP12 := Lib.hid (BP11.out.ext hb12); have m1_12 := Lib.hid (m1_11.out.ext hb12); have m2_12 := Lib.hid (m2_11.out.ext hb12); have LSm12 := Lib.hid (LSm11.out.ext hb12); have RA12 := Lib.hid (RA11.out.ext hb12); have s1_12 := Lib.hid (s1_11.out.ext hb12); have s2_12 := Lib.hid (s2_11.out.ext hb12); have RB12 := Lib.hid (RB11.out.ext hb12); have t1_12 := Lib.hid (t1_11.out.ext hb12); have t2_12 := Lib.hid (t2_11.out.ext hb12); have RC12 := Lib.hid (RC11.out.ext hb12); have f1_12 := Lib.hid (f1_11.out.ext hb12); have f2_12 := Lib.hid (f2_11.out.ext hb12); have RF12 := Lib.hid (RF11.out.ext hb12); have g1_12 := Lib.hid (g1_11.out.ext hb12); have g2_12 := Lib.hid (g2_11.out.ext hb12); clear HE11 D11 BA11 BB11 BP11 m1_11 m2_11 LSm11 RA11 s1_11 s2_11 RB11 t1_11 t2_11 RC11 f1_11 f2_11 RF11 g1_11 g2_11; clear hb12 hblk12 hs12 ho12)
          | (with_reducible refine wpList_load_row rfl 24 _ rfl w9.heap.size rfl 24 _ (0, 0) _ RF12.out Try.underlying24 rfl (by kernel_rfl) ?_)
        have HQ := openB f1_12.out f2_12.out (by omega) (by omega); rw [E6.out] at HQ
        refine (HQ).mono ?_
        rintro e w13 ⟨c1, c2, Ac, cc, rfl, hc1, hc2, hcc, hlc, hb13⟩
        have HE13 := Lib.hid (HE12.out.trans' hb13)
        have D13 := Lib.hid (D12.out.ext hb13)
        have BA13 := Lib.hid (BA12.out.ext hb13)
        have BB13 := Lib.hid (BB12.out.ext hb13)
        have BP13 := Lib.hid (BP12.out.ext hb13)
        have m1_13 := Lib.hid (m1_12.out.ext hb13)
        have m2_13 := Lib.hid (m2_12.out.ext hb13)
        have LSm13 := Lib.hid (LSm12.out.ext hb13)
        have RA13 := Lib.hid (RA12.out.ext hb13)
        have s1_13 := Lib.hid (s1_12.out.ext hb13)
        have s2_13 := Lib.hid (s2_12.out.ext hb13)
        have RB13 := Lib.hid (RB12.out.ext hb13)
        have t1_13 := Lib.hid (t1_12.out.ext hb13)
        have t2_13 := Lib.hid (t2_12.out.ext hb13)
        have RC13 := Lib.hid (RC12.out.ext hb13)
        have f1_13 := Lib.hid (f1_12.out.ext hb13)
        have f2_13 := Lib.hid (f2_12.out.ext hb13)
        have RF13 := Lib.hid (RF12.out.ext hb13)
        have g1_13 := Lib.hid (g1_12.out.ext hb13)
        have g2_13 := Lib.hid (g2_12.out.ext hb13)
        have RG13 := Lib.hid (RG12.out.ext hb13)
        have c1_13 := Lib.hid (hc1)
        have c2_13 := Lib.hid (hc2)
        have LSc13 := Lib.hid (hlc)
        clear HE12 D12 BA12 BB12 BP12 m1_12 m2_12 LSm12 RA12 s1_12 s2_12 RB12 t1_12 t2_12 RC12 f1_12 f2_12 RF12 g1_12 g2_12 RG12
        have kc1 := hc1.cell1
        have kc2 := hc2.cell1
        clear HQ hc1 hc2 hb13 hlc hcc
        go_wp2_with first
          | (refine wpList_store_named rfl 24 _ _ rfl w13.heap.size _ rfl rfl 24 _ (heap_alloc_new _ _) (by kernel_rfl) rfl (by simp [kc1, kc2]) w13 (Ext.a1 _ _) (Nat.le_refl _) ?_; intro w14 hb14 hblk14 hs14 ho14; have RH14 := Lib.hid (show Rec w14 _ 24 #[c1, c2] from hblk14); have HZ14 := Lib.hid (show w14.heap.size = w13.heap.size + 1 by rw [hs14]; simp); have HE14 := Lib.hid (HE13.out.trans' hb14); have D14 := Lib.hid (D13.out.ext hb14); have BA14 := Lib.hid (BA13.out.ext hb14); have BB14 := Lib.hid (BB13.out.ext hb14); have BP14 := Lib.hid (BP13.out.ext hb14); have m1_14 := Lib.hid (m1_13.out.ext hb14); have m2_14 := Lib.hid (m2_13.out.ext hb14); have LSm14 := Lib.hid (LSm13.out.ext hb14); have RA14 := Lib.hid (RA13.out.ext hb14); have s1_14 := Lib.hid (s1_13.out.ext hb14); have s2_14 := Lib.hid (s2_13.out.ext hb14); have RB14 := Lib.hid (RB13.out.ext hb14); have t1_14 := Lib.hid (t1_13.out.ext hb14); have t2_14 := Lib.hid (t2_13.out.ext hb14); have RC14 := Lib.hid (RC13.out.ext hb14); have f1_14 := Lib.hid (f1_13.out.ext hb14); have f2_14 := Lib.hid (f2_13.out.ext hb14); have RF14 := Lib.hid (RF13.out.ext hb14); have g1_14 := Lib.hid (g1_13.out.ext hb14); have g2_14 := Lib.hid (g2_13.out.ext hb14); have RG14 := Lib.hid (RG13.out.ext hb14); have c1_14 := Lib.hid (c1_13.out.ext hb14); have c2_14 := Lib.hid (c2_13.out.ext hb14); have LSc14 := Lib.hid (LSc13.out.ext hb14); clear HE13 D13 BA13 BB13 BP13 m1_13 m2_13 LSm13 RA13 s1_13 s2_13 RB13 t1_13 t2_13 RC13 f1_13 f2_13 RF13 g1_13 g2_13 RG13 c1_13 c2_13 LSc13; clear hb14 hblk14 hs14 ho14)
          | (with_reducible refine wpList_load_row rfl 24 _ rfl w11.heap.size rfl 24 _ (0, 0) _ RG14.out Try.underlying24 rfl (by kernel_rfl) ?_)
        have HQ := openB g1_14.out g2_14.out (by omega) (by omega); rw [E7.out] at HQ
        refine (HQ).mono ?_
        rintro e w15 ⟨k1, k2, Ak, ck, rfl, hk1, hk2, hck, hlk, hb15⟩
        have HE15 := Lib.hid (HE14.out.trans' hb15)
        have D15 := Lib.hid (D14.out.ext hb15)
        have BA15 := Lib.hid (BA14.out.ext hb15)
        have BB15 := Lib.hid (BB14.out.ext hb15)
        have BP15 := Lib.hid (BP14.out.ext hb15)
        have m1_15 := Lib.hid (m1_14.out.ext hb15)
        have m2_15 := Lib.hid (m2_14.out.ext hb15)
        have LSm15 := Lib.hid (LSm14.out.ext hb15)
        have RA15 := Lib.hid (RA14.out.ext hb15)
        have s1_15 := Lib.hid (s1_14.out.ext hb15)
        have s2_15 := Lib.hid (s2_14.out.ext hb15)
        have RB15 := Lib.hid (RB14.out.ext hb15)
        have t1_15 := Lib.hid (t1_14.out.ext hb15)
        have t2_15 := Lib.hid (t2_14.out.ext hb15)
        have RC15 := Lib.hid (RC14.out.ext hb15)
        have f1_15 := Lib.hid (f1_14.out.ext hb15)
        have f2_15 := Lib.hid (f2_14.out.ext hb15)
        have RF15 := Lib.hid (RF14.out.ext hb15)
        have g1_15 := Lib.hid (g1_14.out.ext hb15)
        have g2_15 := Lib.hid (g2_14.out.ext hb15)
        have RG15 := Lib.hid (RG14.out.ext hb15)
        have c1_15 := Lib.hid (c1_14.out.ext hb15)
        have c2_15 := Lib.hid (c2_14.out.ext hb15)
        have LSc15 := Lib.hid (LSc14.out.ext hb15)
        have RH15 := Lib.hid (RH14.out.ext hb15)
        have k1_15 := Lib.hid (hk1)
        have k2_15 := Lib.hid (hk2)
        have LSk15 := Lib.hid (hlk)
        clear HE14 D14 BA14 BB14 BP14 m1_14 m2_14 LSm14 RA14 s1_14 s2_14 RB14 t1_14 t2_14 RC14 f1_14 f2_14 RF14 g1_14 g2_14 RG14 c1_14 c2_14 LSc14 RH14
        have kk1 := hk1.cell1
        have kk2 := hk2.cell1
        clear HQ hk1 hk2 hb15 hlk hck
        go_wp2_with (refine wpList_store_named rfl 24 _ _ rfl w15.heap.size _ rfl rfl 24 _ (heap_alloc_new _ _) (by kernel_rfl) rfl (by simp [kk1, kk2]) w15 (Ext.a1 _ _) (Nat.le_refl _) ?_; intro w16 hb16 hblk16 hs16 ho16; have RK16 := Lib.hid (show Rec w16 _ 24 #[k1, k2] from hblk16); have HZ16 := Lib.hid (show w16.heap.size = w15.heap.size + 1 by rw [hs16]; simp); have HE16 := Lib.hid (HE15.out.trans' hb16); have D16 := Lib.hid (D15.out.ext hb16); have BA16 := Lib.hid (BA15.out.ext hb16); have BB16 := Lib.hid (BB15.out.ext hb16); have BP16 := Lib.hid (BP15.out.ext hb16); have m1_16 := Lib.hid (m1_15.out.ext hb16); have m2_16 := Lib.hid (m2_15.out.ext hb16); have LSm16 := Lib.hid (LSm15.out.ext hb16); have RA16 := Lib.hid (RA15.out.ext hb16); have s1_16 := Lib.hid (s1_15.out.ext hb16); have s2_16 := Lib.hid (s2_15.out.ext hb16); have RB16 := Lib.hid (RB15.out.ext hb16); have t1_16 := Lib.hid (t1_15.out.ext hb16); have t2_16 := Lib.hid (t2_15.out.ext hb16); have RC16 := Lib.hid (RC15.out.ext hb16); have f1_16 := Lib.hid (f1_15.out.ext hb16); have f2_16 := Lib.hid (f2_15.out.ext hb16); have RF16 := Lib.hid (RF15.out.ext hb16); have g1_16 := Lib.hid (g1_15.out.ext hb16); have g2_16 := Lib.hid (g2_15.out.ext hb16); have RG16 := Lib.hid (RG15.out.ext hb16); have c1_16 := Lib.hid (c1_15.out.ext hb16); have c2_16 := Lib.hid (c2_15.out.ext hb16); have LSc16 := Lib.hid (LSc15.out.ext hb16); have RH16 := Lib.hid (RH15.out.ext hb16); have k1_16 := Lib.hid (k1_15.out.ext hb16); have k2_16 := Lib.hid (k2_15.out.ext hb16); have LSk16 := Lib.hid (LSk15.out.ext hb16); have gqRB0 := RB16.out.cell (i := 0) rfl; have gqRB1 := RB16.out.cell (i := 1) rfl; have gqD0 := D16.out.cell (i := 0) rfl; have gqD1 := D16.out.cell (i := 1) rfl; clear HE15 D15 BA15 BB15 BP15 m1_15 m2_15 LSm15 RA15 s1_15 s2_15 RB15 t1_15 t2_15 RC15 f1_15 f2_15 RF15 g1_15 g2_15 RG15 c1_15 c2_15 LSc15 RH15 k1_15 k2_15 LSk15; clear hb16 hblk16 hs16 ho16)
        have HQ := sameB s1_16.out s2_16.out BA16.out BB16.out
        simp only [beq_self_eq_true, Bool.and_self] at HQ
        refine (HQ).mono ?_
        rintro e w17 ⟨rfl, hb17⟩
        have HE17 := Lib.hid (HE16.out.trans' hb17)
        have D17 := Lib.hid (D16.out.ext hb17)
        have BA17 := Lib.hid (BA16.out.ext hb17)
        have BB17 := Lib.hid (BB16.out.ext hb17)
        have BP17 := Lib.hid (BP16.out.ext hb17)
        have m1_17 := Lib.hid (m1_16.out.ext hb17)
        have m2_17 := Lib.hid (m2_16.out.ext hb17)
        have LSm17 := Lib.hid (LSm16.out.ext hb17)
        have RA17 := Lib.hid (RA16.out.ext hb17)
        have s1_17 := Lib.hid (s1_16.out.ext hb17)
        have s2_17 := Lib.hid (s2_16.out.ext hb17)
        have RB17 := Lib.hid (RB16.out.ext hb17)
        have t1_17 := Lib.hid (t1_16.out.ext hb17)
        have t2_17 := Lib.hid (t2_16.out.ext hb17)
        have RC17 := Lib.hid (RC16.out.ext hb17)
        have f1_17 := Lib.hid (f1_16.out.ext hb17)
        have f2_17 := Lib.hid (f2_16.out.ext hb17)
        have RF17 := Lib.hid (RF16.out.ext hb17)
        have g1_17 := Lib.hid (g1_16.out.ext hb17)
        have g2_17 := Lib.hid (g2_16.out.ext hb17)
        have RG17 := Lib.hid (RG16.out.ext hb17)
        have c1_17 := Lib.hid (c1_16.out.ext hb17)
        have c2_17 := Lib.hid (c2_16.out.ext hb17)
        have LSc17 := Lib.hid (LSc16.out.ext hb17)
        have RH17 := Lib.hid (RH16.out.ext hb17)
        have k1_17 := Lib.hid (k1_16.out.ext hb17)
        have k2_17 := Lib.hid (k2_16.out.ext hb17)
        have LSk17 := Lib.hid (LSk16.out.ext hb17)
        have RK17 := Lib.hid (RK16.out.ext hb17)
        clear HE16 D16 BA16 BB16 BP16 m1_16 m2_16 LSm16 RA16 s1_16 s2_16 RB16 t1_16 t2_16 RC16 f1_16 f2_16 RF16 g1_16 g2_16 RG16 c1_16 c2_16 LSc16 RH16 k1_16 k2_16 LSk16 RK16
        clear HQ hb17
        skip
        have gcRC0_17 := RC17.out.cell (i := 0) rfl
        have gcRC1_17 := RC17.out.cell (i := 1) rfl
        have gcRA0_17 := RA17.out.cell (i := 0) rfl
        have gcRA1_17 := RA17.out.cell (i := 1) rfl
        go_wp2_with fail
        have HQ := sameB t1_17.out t2_17.out m1_17.out m2_17.out
        simp only [beq_self_eq_true, Bool.and_self] at HQ
        refine (HQ).mono ?_
        rintro e w18 ⟨rfl, hb18⟩
        have HE18 := Lib.hid (HE17.out.trans' hb18)
        have D18 := Lib.hid (D17.out.ext hb18)
        have BA18 := Lib.hid (BA17.out.ext hb18)
        have BB18 := Lib.hid (BB17.out.ext hb18)
        have BP18 := Lib.hid (BP17.out.ext hb18)
        have m1_18 := Lib.hid (m1_17.out.ext hb18)
        have m2_18 := Lib.hid (m2_17.out.ext hb18)
        have LSm18 := Lib.hid (LSm17.out.ext hb18)
        have RA18 := Lib.hid (RA17.out.ext hb18)
        have s1_18 := Lib.hid (s1_17.out.ext hb18)
        have s2_18 := Lib.hid (s2_17.out.ext hb18)
        have RB18 := Lib.hid (RB17.out.ext hb18)
        have t1_18 := Lib.hid (t1_17.out.ext hb18)
        have t2_18 := Lib.hid (t2_17.out.ext hb18)
        have RC18 := Lib.hid (RC17.out.ext hb18)
        have f1_18 := Lib.hid (f1_17.out.ext hb18)
        have f2_18 := Lib.hid (f2_17.out.ext hb18)
        have RF18 := Lib.hid (RF17.out.ext hb18)
        have g1_18 := Lib.hid (g1_17.out.ext hb18)
        have g2_18 := Lib.hid (g2_17.out.ext hb18)
        have RG18 := Lib.hid (RG17.out.ext hb18)
        have c1_18 := Lib.hid (c1_17.out.ext hb18)
        have c2_18 := Lib.hid (c2_17.out.ext hb18)
        have LSc18 := Lib.hid (LSc17.out.ext hb18)
        have RH18 := Lib.hid (RH17.out.ext hb18)
        have k1_18 := Lib.hid (k1_17.out.ext hb18)
        have k2_18 := Lib.hid (k2_17.out.ext hb18)
        have LSk18 := Lib.hid (LSk17.out.ext hb18)
        have RK18 := Lib.hid (RK17.out.ext hb18)
        clear HE17 D17 BA17 BB17 BP17 m1_17 m2_17 LSm17 RA17 s1_17 s2_17 RB17 t1_17 t2_17 RC17 f1_17 f2_17 RF17 g1_17 g2_17 RG17 c1_17 c2_17 LSc17 RH17 k1_17 k2_17 LSk17 RK17
        clear HQ hb18
        go_wp2_with fail
        go_ret
        exact ⟨rfl, HE18.out⟩
      | some q =>
        obtain ⟨s, f⟩ := q
        have hl1 := Disk.opened_len a b 3000 ha hb
        have hl2 := Disk.snap_len a b tear 3000 ha hb
        have hl3 := Disk.snap_len (Disk.opened a b).1.1 (Disk.opened a b).1.2 tear 3000 hl1.1 hl1.2
        have hl4 := Disk.opened_recs (Disk.snap a b tear).1.1 (Disk.snap a b tear).1.2 103100 (by omega) (by omega)
        obtain ⟨e1, e2, e3, e4, e5⟩ := Disk.cuts_some hw p (by omega) tear
        obtain ⟨o1, ho1⟩ : ∃ o, Disk.opened a b = o := ⟨_, rfl⟩
        rw [ho1] at e1 e2 e3 e4 e5 hl1 hl3
        obtain ⟨xq, rc, er⟩ := o1
        try simp only at e1
        subst e1
        try simp only at e2 e3 e4 e5 hl1 hl3
        obtain ⟨r2, hr2⟩ : ∃ r, Disk.append a b p tear = r := ⟨_, rfl⟩
        rw [hr2] at e2
        obtain ⟨r4, hr4⟩ : ∃ r, Disk.snap a b tear = r := ⟨_, rfl⟩
        rw [hr4] at e3 e4 e5 hl2 hl4
        obtain ⟨v, es⟩ := r4
        obtain ⟨r5, hr5⟩ : ∃ r, Disk.snap xq.1 xq.2 tear = r := ⟨_, rfl⟩
        rw [hr5] at e3 e4 e5 hl3
        obtain ⟨u, es'⟩ := r5
        try simp only at e3 e4 e5 hl2 hl3 hl4
        subst e3
        obtain ⟨r6, hr6⟩ : ∃ r, Disk.opened v.1 v.2 = r := ⟨_, rfl⟩
        rw [hr6] at e4 e5 hl4
        obtain ⟨r7, hr7⟩ : ∃ r, Disk.opened u.1 u.2 = r := ⟨_, rfl⟩
        rw [hr7] at e4 e5
        obtain ⟨c6, l6, e6⟩ := r6
        obtain ⟨c7, q7⟩ := r7
        try simp only at e4 e5 hl4
        subst e4
        have E1 := Lib.hid ho1
        have E2 := Lib.hid hr2
        have E3 := Lib.hid e2
        have E4 := Lib.hid hr4
        have E5 := Lib.hid hr5
        have E6 := Lib.hid hr6
        have E7 := Lib.hid hr7
        have EE := Lib.hid e5
        have LX := Lib.hid hl1
        have LV := Lib.hid hl2
        have LU := Lib.hid hl3
        have LL := Lib.hid hl4
        clear ho1 hr2 e2 hr4 hr5 hr6 hr7 e5 hl1 hl2 hl3 hl4 hw
        have HQ := openB BA2.out BB2.out (by omega) (by omega); rw [E1.out] at HQ
        refine (HQ).mono ?_
        rintro e w3 ⟨m1, m2, Am, cm, rfl, hm1, hm2, hcm, hlm, hb3⟩
        have HE3 := Lib.hid (HE2.out.trans' hb3)
        have D3 := Lib.hid (D2.out.ext hb3)
        have BA3 := Lib.hid (BA2.out.ext hb3)
        have BB3 := Lib.hid (BB2.out.ext hb3)
        have BP3 := Lib.hid (BP2.out.ext hb3)
        have m1_3 := Lib.hid (hm1)
        have m2_3 := Lib.hid (hm2)
        have LSm3 := Lib.hid (hlm)
        clear HE2 D2 BA2 BB2 BP2
        have km1 := hm1.cell1
        have km2 := hm2.cell1
        clear HQ hm1 hm2 hb3 hlm hcm
        go_wp2_with first
          | (refine wpList_store_named rfl 24 _ _ rfl w3.heap.size _ rfl rfl 24 _ (heap_alloc_new _ _) (by kernel_rfl) rfl (by simp [km1, km2]) w3 (Ext.a1 _ _) (Nat.le_refl _) ?_; intro w4 hb4 hblk4 hs4 ho4; have RA4 := Lib.hid (show Rec w4 _ 24 #[m1, m2] from hblk4); have HZ4 := Lib.hid (show w4.heap.size = w3.heap.size + 1 by rw [hs4]; simp); have HE4 := Lib.hid (HE3.out.trans' hb4); have D4 := Lib.hid (D3.out.ext hb4); have BA4 := Lib.hid (BA3.out.ext hb4); have BB4 := Lib.hid (BB3.out.ext hb4); have BP4 := Lib.hid (BP3.out.ext hb4); have m1_4 := Lib.hid (m1_3.out.ext hb4); have m2_4 := Lib.hid (m2_3.out.ext hb4); have LSm4 := Lib.hid (LSm3.out.ext hb4); clear HE3 D3 BA3 BB3 BP3 m1_3 m2_3 LSm3; clear hb4 hblk4 hs4 ho4)
          | (with_reducible refine wpList_load_row rfl 24 _ rfl D rfl 24 _ (0, 0) _ D4.out Try.underlying24 rfl (by kernel_rfl) ?_)
        have HQ := appendB (tear := tear) BA4.out BB4.out BP4.out (by omega) (by omega) (by omega) ht1 ht2; rw [E2.out] at HQ
        refine (HQ).mono ?_
        rintro e w5 ⟨s1, s2, rfl, hs1, hs2, hb5⟩
        have HE5 := Lib.hid (HE4.out.trans' hb5)
        have D5 := Lib.hid (D4.out.ext hb5)
        have BA5 := Lib.hid (BA4.out.ext hb5)
        have BB5 := Lib.hid (BB4.out.ext hb5)
        have BP5 := Lib.hid (BP4.out.ext hb5)
        have m1_5 := Lib.hid (m1_4.out.ext hb5)
        have m2_5 := Lib.hid (m2_4.out.ext hb5)
        have LSm5 := Lib.hid (LSm4.out.ext hb5)
        have RA5 := Lib.hid (RA4.out.ext hb5)
        have s1_5 := Lib.hid (hs1)
        have s2_5 := Lib.hid (hs2)
        clear HE4 D4 BA4 BB4 BP4 m1_4 m2_4 LSm4 RA4
        have ks1 := hs1.cell1
        have ks2 := hs2.cell1
        clear HQ hs1 hs2 hb5
        go_wp2_with first
          | (refine wpList_store_named rfl 24 _ _ rfl w5.heap.size _ rfl rfl 24 _ (heap_alloc_new _ _) (by kernel_rfl) rfl (by simp [ks1, ks2]) w5 (Ext.a1 _ _) (Nat.le_refl _) ?_; intro w6 hb6 hblk6 hs6 ho6; have RB6 := Lib.hid (show Rec w6 _ 24 #[s1, s2] from hblk6); have HZ6 := Lib.hid (show w6.heap.size = w5.heap.size + 1 by rw [hs6]; simp); have HE6 := Lib.hid (HE5.out.trans' hb6); have D6 := Lib.hid (D5.out.ext hb6); have BA6 := Lib.hid (BA5.out.ext hb6); have BB6 := Lib.hid (BB5.out.ext hb6); have BP6 := Lib.hid (BP5.out.ext hb6); have m1_6 := Lib.hid (m1_5.out.ext hb6); have m2_6 := Lib.hid (m2_5.out.ext hb6); have LSm6 := Lib.hid (LSm5.out.ext hb6); have RA6 := Lib.hid (RA5.out.ext hb6); have s1_6 := Lib.hid (s1_5.out.ext hb6); have s2_6 := Lib.hid (s2_5.out.ext hb6); clear HE5 D5 BA5 BB5 BP5 m1_5 m2_5 LSm5 RA5 s1_5 s2_5; clear hb6 hblk6 hs6 ho6)
          | (with_reducible refine wpList_load_row rfl 24 _ rfl w3.heap.size rfl 24 _ (0, 0) _ RA6.out Try.underlying24 rfl (by kernel_rfl) ?_)
        have HQ := appendB (tear := tear) m1_6.out m2_6.out BP6.out (by have := LX.out.1; omega) (by have := LX.out.2; omega) (by omega) ht1 ht2; rw [E3.out] at HQ
        refine (HQ).mono ?_
        rintro e w7 ⟨t1, t2, rfl, ht1, ht2, hb7⟩
        have HE7 := Lib.hid (HE6.out.trans' hb7)
        have D7 := Lib.hid (D6.out.ext hb7)
        have BA7 := Lib.hid (BA6.out.ext hb7)
        have BB7 := Lib.hid (BB6.out.ext hb7)
        have BP7 := Lib.hid (BP6.out.ext hb7)
        have m1_7 := Lib.hid (m1_6.out.ext hb7)
        have m2_7 := Lib.hid (m2_6.out.ext hb7)
        have LSm7 := Lib.hid (LSm6.out.ext hb7)
        have RA7 := Lib.hid (RA6.out.ext hb7)
        have s1_7 := Lib.hid (s1_6.out.ext hb7)
        have s2_7 := Lib.hid (s2_6.out.ext hb7)
        have RB7 := Lib.hid (RB6.out.ext hb7)
        have t1_7 := Lib.hid (ht1)
        have t2_7 := Lib.hid (ht2)
        clear HE6 D6 BA6 BB6 BP6 m1_6 m2_6 LSm6 RA6 s1_6 s2_6 RB6
        have kt1 := ht1.cell1
        have kt2 := ht2.cell1
        clear HQ ht1 ht2 hb7
        go_wp2_with first
          | (refine wpList_store_named rfl 24 _ _ rfl w7.heap.size _ rfl rfl 24 _ (heap_alloc_new _ _) (by kernel_rfl) rfl (by simp [kt1, kt2]) w7 (Ext.a1 _ _) (Nat.le_refl _) ?_; intro w8 hb8 hblk8 hs8 ho8; have RC8 := Lib.hid (show Rec w8 _ 24 #[t1, t2] from hblk8); have HZ8 := Lib.hid (show w8.heap.size = w7.heap.size + 1 by rw [hs8]; simp); have HE8 := Lib.hid (HE7.out.trans' hb8); have D8 := Lib.hid (D7.out.ext hb8); have BA8 := Lib.hid (BA7.out.ext hb8); have BB8 := Lib.hid (BB7.out.ext hb8); have BP8 := Lib.hid (BP7.out.ext hb8); have m1_8 := Lib.hid (m1_7.out.ext hb8); have m2_8 := Lib.hid (m2_7.out.ext hb8); have LSm8 := Lib.hid (LSm7.out.ext hb8); have RA8 := Lib.hid (RA7.out.ext hb8); have s1_8 := Lib.hid (s1_7.out.ext hb8); have s2_8 := Lib.hid (s2_7.out.ext hb8); have RB8 := Lib.hid (RB7.out.ext hb8); have t1_8 := Lib.hid (t1_7.out.ext hb8); have t2_8 := Lib.hid (t2_7.out.ext hb8); clear HE7 D7 BA7 BB7 BP7 m1_7 m2_7 LSm7 RA7 s1_7 s2_7 RB7 t1_7 t2_7; clear hb8 hblk8 hs8 ho8)
          | (with_reducible refine wpList_load_row rfl 24 _ rfl D rfl 24 _ (0, 0) _ D8.out Try.underlying24 rfl (by kernel_rfl) ?_)
        have HQ := snapB (tear := tear) BA8.out BB8.out (by omega) (by omega) ht1 ht2; rw [E4.out] at HQ
        refine (HQ).mono ?_
        rintro e w9 ⟨f1, f2, rfl, hf1, hf2, hb9⟩
        have HE9 := Lib.hid (HE8.out.trans' hb9)
        have D9 := Lib.hid (D8.out.ext hb9)
        have BA9 := Lib.hid (BA8.out.ext hb9)
        have BB9 := Lib.hid (BB8.out.ext hb9)
        have BP9 := Lib.hid (BP8.out.ext hb9)
        have m1_9 := Lib.hid (m1_8.out.ext hb9)
        have m2_9 := Lib.hid (m2_8.out.ext hb9)
        have LSm9 := Lib.hid (LSm8.out.ext hb9)
        have RA9 := Lib.hid (RA8.out.ext hb9)
        have s1_9 := Lib.hid (s1_8.out.ext hb9)
        have s2_9 := Lib.hid (s2_8.out.ext hb9)
        have RB9 := Lib.hid (RB8.out.ext hb9)
        have t1_9 := Lib.hid (t1_8.out.ext hb9)
        have t2_9 := Lib.hid (t2_8.out.ext hb9)
        have RC9 := Lib.hid (RC8.out.ext hb9)
        have f1_9 := Lib.hid (hf1)
        have f2_9 := Lib.hid (hf2)
        clear HE8 D8 BA8 BB8 BP8 m1_8 m2_8 LSm8 RA8 s1_8 s2_8 RB8 t1_8 t2_8 RC8
        have kf1 := hf1.cell1
        have kf2 := hf2.cell1
        clear HQ hf1 hf2 hb9
        go_wp2_with first
          | (refine wpList_store_named rfl 24 _ _ rfl w9.heap.size _ rfl rfl 24 _ (heap_alloc_new _ _) (by kernel_rfl) rfl (by simp [kf1, kf2]) w9 (Ext.a1 _ _) (Nat.le_refl _) ?_; intro w10 hb10 hblk10 hs10 ho10; have RF10 := Lib.hid (show Rec w10 _ 24 #[f1, f2] from hblk10); have HZ10 := Lib.hid (show w10.heap.size = w9.heap.size + 1 by rw [hs10]; simp); have HE10 := Lib.hid (HE9.out.trans' hb10); have D10 := Lib.hid (D9.out.ext hb10); have BA10 := Lib.hid (BA9.out.ext hb10); have BB10 := Lib.hid (BB9.out.ext hb10); have BP10 := Lib.hid (BP9.out.ext hb10); have m1_10 := Lib.hid (m1_9.out.ext hb10); have m2_10 := Lib.hid (m2_9.out.ext hb10); have LSm10 := Lib.hid (LSm9.out.ext hb10); have RA10 := Lib.hid (RA9.out.ext hb10); have s1_10 := Lib.hid (s1_9.out.ext hb10); have s2_10 := Lib.hid (s2_9.out.ext hb10); have RB10 := Lib.hid (RB9.out.ext hb10); have t1_10 := Lib.hid (t1_9.out.ext hb10); have t2_10 := Lib.hid (t2_9.out.ext hb10); have RC10 := Lib.hid (RC9.out.ext hb10); have f1_10 := Lib.hid (f1_9.out.ext hb10); have f2_10 := Lib.hid (f2_9.out.ext hb10); clear HE9 D9 BA9 BB9 BP9 m1_9 m2_9 LSm9 RA9 s1_9 s2_9 RB9 t1_9 t2_9 RC9 f1_9 f2_9; clear hb10 hblk10 hs10 ho10)
          | (with_reducible refine wpList_load_row rfl 24 _ rfl w3.heap.size rfl 24 _ (0, 0) _ RA10.out Try.underlying24 rfl (by kernel_rfl) ?_)
        have HQ := snapB (tear := tear) m1_10.out m2_10.out (by have := LX.out.1; omega) (by have := LX.out.2; omega) ht1 ht2; rw [E5.out] at HQ
        refine (HQ).mono ?_
        rintro e w11 ⟨g1, g2, rfl, hg1, hg2, hb11⟩
        have HE11 := Lib.hid (HE10.out.trans' hb11)
        have D11 := Lib.hid (D10.out.ext hb11)
        have BA11 := Lib.hid (BA10.out.ext hb11)
        have BB11 := Lib.hid (BB10.out.ext hb11)
        have BP11 := Lib.hid (BP10.out.ext hb11)
        have m1_11 := Lib.hid (m1_10.out.ext hb11)
        have m2_11 := Lib.hid (m2_10.out.ext hb11)
        have LSm11 := Lib.hid (LSm10.out.ext hb11)
        have RA11 := Lib.hid (RA10.out.ext hb11)
        have s1_11 := Lib.hid (s1_10.out.ext hb11)
        have s2_11 := Lib.hid (s2_10.out.ext hb11)
        have RB11 := Lib.hid (RB10.out.ext hb11)
        have t1_11 := Lib.hid (t1_10.out.ext hb11)
        have t2_11 := Lib.hid (t2_10.out.ext hb11)
        have RC11 := Lib.hid (RC10.out.ext hb11)
        have f1_11 := Lib.hid (f1_10.out.ext hb11)
        have f2_11 := Lib.hid (f2_10.out.ext hb11)
        have RF11 := Lib.hid (RF10.out.ext hb11)
        have g1_11 := Lib.hid (hg1)
        have g2_11 := Lib.hid (hg2)
        clear HE10 D10 BA10 BB10 BP10 m1_10 m2_10 LSm10 RA10 s1_10 s2_10 RB10 t1_10 t2_10 RC10 f1_10 f2_10 RF10
        have kg1 := hg1.cell1
        have kg2 := hg2.cell1
        clear HQ hg1 hg2 hb11
        go_wp2_with first
          | (refine wpList_store_named rfl 24 _ _ rfl w11.heap.size _ rfl rfl 24 _ (heap_alloc_new _ _) (by kernel_rfl) rfl (by simp [kg1, kg2]) w11 (Ext.a1 _ _) (Nat.le_refl _) ?_; intro w12 hb12 hblk12 hs12 ho12; have RG12 := Lib.hid (show Rec w12 _ 24 #[g1, g2] from hblk12); have HZ12 := Lib.hid (show w12.heap.size = w11.heap.size + 1 by rw [hs12]; simp); have HE12 := Lib.hid (HE11.out.trans' hb12); have D12 := Lib.hid (D11.out.ext hb12); have BA12 := Lib.hid (BA11.out.ext hb12); have BB12 := Lib.hid (BB11.out.ext hb12); have BP12 := Lib.hid (BP11.out.ext hb12); have m1_12 := Lib.hid (m1_11.out.ext hb12); have m2_12 := Lib.hid (m2_11.out.ext hb12); have LSm12 := Lib.hid (LSm11.out.ext hb12); have RA12 := Lib.hid (RA11.out.ext hb12); have s1_12 := Lib.hid (s1_11.out.ext hb12); have s2_12 := Lib.hid (s2_11.out.ext hb12); have RB12 := Lib.hid (RB11.out.ext hb12); have t1_12 := Lib.hid (t1_11.out.ext hb12); have t2_12 := Lib.hid (t2_11.out.ext hb12); have RC12 := Lib.hid (RC11.out.ext hb12); have f1_12 := Lib.hid (f1_11.out.ext hb12); have f2_12 := Lib.hid (f2_11.out.ext hb12); have RF12 := Lib.hid (RF11.out.ext hb12); have g1_12 := Lib.hid (g1_11.out.ext hb12); have g2_12 := Lib.hid (g2_11.out.ext hb12); clear HE11 D11 BA11 BB11 BP11 m1_11 m2_11 LSm11 RA11 s1_11 s2_11 RB11 t1_11 t2_11 RC11 f1_11 f2_11 RF11 g1_11 g2_11; clear hb12 hblk12 hs12 ho12)
          | (with_reducible refine wpList_load_row rfl 24 _ rfl w9.heap.size rfl 24 _ (0, 0) _ RF12.out Try.underlying24 rfl (by kernel_rfl) ?_)
        have HQ := openB f1_12.out f2_12.out (by have := LV.out.1; omega) (by have := LV.out.2; omega); rw [E6.out] at HQ
        refine (HQ).mono ?_
        rintro e w13 ⟨c1, c2, Ac, cc, rfl, hc1, hc2, hcc, hlc, hb13⟩
        have HE13 := Lib.hid (HE12.out.trans' hb13)
        have D13 := Lib.hid (D12.out.ext hb13)
        have BA13 := Lib.hid (BA12.out.ext hb13)
        have BB13 := Lib.hid (BB12.out.ext hb13)
        have BP13 := Lib.hid (BP12.out.ext hb13)
        have m1_13 := Lib.hid (m1_12.out.ext hb13)
        have m2_13 := Lib.hid (m2_12.out.ext hb13)
        have LSm13 := Lib.hid (LSm12.out.ext hb13)
        have RA13 := Lib.hid (RA12.out.ext hb13)
        have s1_13 := Lib.hid (s1_12.out.ext hb13)
        have s2_13 := Lib.hid (s2_12.out.ext hb13)
        have RB13 := Lib.hid (RB12.out.ext hb13)
        have t1_13 := Lib.hid (t1_12.out.ext hb13)
        have t2_13 := Lib.hid (t2_12.out.ext hb13)
        have RC13 := Lib.hid (RC12.out.ext hb13)
        have f1_13 := Lib.hid (f1_12.out.ext hb13)
        have f2_13 := Lib.hid (f2_12.out.ext hb13)
        have RF13 := Lib.hid (RF12.out.ext hb13)
        have g1_13 := Lib.hid (g1_12.out.ext hb13)
        have g2_13 := Lib.hid (g2_12.out.ext hb13)
        have RG13 := Lib.hid (RG12.out.ext hb13)
        have c1_13 := Lib.hid (hc1)
        have c2_13 := Lib.hid (hc2)
        have LSc13 := Lib.hid (hlc)
        clear HE12 D12 BA12 BB12 BP12 m1_12 m2_12 LSm12 RA12 s1_12 s2_12 RB12 t1_12 t2_12 RC12 f1_12 f2_12 RF12 g1_12 g2_12 RG12
        have kc1 := hc1.cell1
        have kc2 := hc2.cell1
        clear HQ hc1 hc2 hb13 hlc hcc
        go_wp2_with first
          | (refine wpList_store_named rfl 24 _ _ rfl w13.heap.size _ rfl rfl 24 _ (heap_alloc_new _ _) (by kernel_rfl) rfl (by simp [kc1, kc2]) w13 (Ext.a1 _ _) (Nat.le_refl _) ?_; intro w14 hb14 hblk14 hs14 ho14; have RH14 := Lib.hid (show Rec w14 _ 24 #[c1, c2] from hblk14); have HZ14 := Lib.hid (show w14.heap.size = w13.heap.size + 1 by rw [hs14]; simp); have HE14 := Lib.hid (HE13.out.trans' hb14); have D14 := Lib.hid (D13.out.ext hb14); have BA14 := Lib.hid (BA13.out.ext hb14); have BB14 := Lib.hid (BB13.out.ext hb14); have BP14 := Lib.hid (BP13.out.ext hb14); have m1_14 := Lib.hid (m1_13.out.ext hb14); have m2_14 := Lib.hid (m2_13.out.ext hb14); have LSm14 := Lib.hid (LSm13.out.ext hb14); have RA14 := Lib.hid (RA13.out.ext hb14); have s1_14 := Lib.hid (s1_13.out.ext hb14); have s2_14 := Lib.hid (s2_13.out.ext hb14); have RB14 := Lib.hid (RB13.out.ext hb14); have t1_14 := Lib.hid (t1_13.out.ext hb14); have t2_14 := Lib.hid (t2_13.out.ext hb14); have RC14 := Lib.hid (RC13.out.ext hb14); have f1_14 := Lib.hid (f1_13.out.ext hb14); have f2_14 := Lib.hid (f2_13.out.ext hb14); have RF14 := Lib.hid (RF13.out.ext hb14); have g1_14 := Lib.hid (g1_13.out.ext hb14); have g2_14 := Lib.hid (g2_13.out.ext hb14); have RG14 := Lib.hid (RG13.out.ext hb14); have c1_14 := Lib.hid (c1_13.out.ext hb14); have c2_14 := Lib.hid (c2_13.out.ext hb14); have LSc14 := Lib.hid (LSc13.out.ext hb14); clear HE13 D13 BA13 BB13 BP13 m1_13 m2_13 LSm13 RA13 s1_13 s2_13 RB13 t1_13 t2_13 RC13 f1_13 f2_13 RF13 g1_13 g2_13 RG13 c1_13 c2_13 LSc13; clear hb14 hblk14 hs14 ho14)
          | (with_reducible refine wpList_load_row rfl 24 _ rfl w11.heap.size rfl 24 _ (0, 0) _ RG14.out Try.underlying24 rfl (by kernel_rfl) ?_)
        have HQ := openB g1_14.out g2_14.out (by have := LU.out.1; omega) (by have := LU.out.2; omega); rw [E7.out] at HQ
        refine (HQ).mono ?_
        rintro e w15 ⟨k1, k2, Ak, ck, rfl, hk1, hk2, hck, hlk, hb15⟩
        have HE15 := Lib.hid (HE14.out.trans' hb15)
        have D15 := Lib.hid (D14.out.ext hb15)
        have BA15 := Lib.hid (BA14.out.ext hb15)
        have BB15 := Lib.hid (BB14.out.ext hb15)
        have BP15 := Lib.hid (BP14.out.ext hb15)
        have m1_15 := Lib.hid (m1_14.out.ext hb15)
        have m2_15 := Lib.hid (m2_14.out.ext hb15)
        have LSm15 := Lib.hid (LSm14.out.ext hb15)
        have RA15 := Lib.hid (RA14.out.ext hb15)
        have s1_15 := Lib.hid (s1_14.out.ext hb15)
        have s2_15 := Lib.hid (s2_14.out.ext hb15)
        have RB15 := Lib.hid (RB14.out.ext hb15)
        have t1_15 := Lib.hid (t1_14.out.ext hb15)
        have t2_15 := Lib.hid (t2_14.out.ext hb15)
        have RC15 := Lib.hid (RC14.out.ext hb15)
        have f1_15 := Lib.hid (f1_14.out.ext hb15)
        have f2_15 := Lib.hid (f2_14.out.ext hb15)
        have RF15 := Lib.hid (RF14.out.ext hb15)
        have g1_15 := Lib.hid (g1_14.out.ext hb15)
        have g2_15 := Lib.hid (g2_14.out.ext hb15)
        have RG15 := Lib.hid (RG14.out.ext hb15)
        have c1_15 := Lib.hid (c1_14.out.ext hb15)
        have c2_15 := Lib.hid (c2_14.out.ext hb15)
        have LSc15 := Lib.hid (LSc14.out.ext hb15)
        have RH15 := Lib.hid (RH14.out.ext hb15)
        have k1_15 := Lib.hid (hk1)
        have k2_15 := Lib.hid (hk2)
        have LSk15 := Lib.hid (hlk)
        clear HE14 D14 BA14 BB14 BP14 m1_14 m2_14 LSm14 RA14 s1_14 s2_14 RB14 t1_14 t2_14 RC14 f1_14 f2_14 RF14 g1_14 g2_14 RG14 c1_14 c2_14 LSc14 RH14
        have kk1 := hk1.cell1
        have kk2 := hk2.cell1
        clear HQ hk1 hk2 hb15 hlk hck
        go_wp2_with (refine wpList_store_named rfl 24 _ _ rfl w15.heap.size _ rfl rfl 24 _ (heap_alloc_new _ _) (by kernel_rfl) rfl (by simp [kk1, kk2]) w15 (Ext.a1 _ _) (Nat.le_refl _) ?_; intro w16 hb16 hblk16 hs16 ho16; have RK16 := Lib.hid (show Rec w16 _ 24 #[k1, k2] from hblk16); have HZ16 := Lib.hid (show w16.heap.size = w15.heap.size + 1 by rw [hs16]; simp); have HE16 := Lib.hid (HE15.out.trans' hb16); have D16 := Lib.hid (D15.out.ext hb16); have BA16 := Lib.hid (BA15.out.ext hb16); have BB16 := Lib.hid (BB15.out.ext hb16); have BP16 := Lib.hid (BP15.out.ext hb16); have m1_16 := Lib.hid (m1_15.out.ext hb16); have m2_16 := Lib.hid (m2_15.out.ext hb16); have LSm16 := Lib.hid (LSm15.out.ext hb16); have RA16 := Lib.hid (RA15.out.ext hb16); have s1_16 := Lib.hid (s1_15.out.ext hb16); have s2_16 := Lib.hid (s2_15.out.ext hb16); have RB16 := Lib.hid (RB15.out.ext hb16); have t1_16 := Lib.hid (t1_15.out.ext hb16); have t2_16 := Lib.hid (t2_15.out.ext hb16); have RC16 := Lib.hid (RC15.out.ext hb16); have f1_16 := Lib.hid (f1_15.out.ext hb16); have f2_16 := Lib.hid (f2_15.out.ext hb16); have RF16 := Lib.hid (RF15.out.ext hb16); have g1_16 := Lib.hid (g1_15.out.ext hb16); have g2_16 := Lib.hid (g2_15.out.ext hb16); have RG16 := Lib.hid (RG15.out.ext hb16); have c1_16 := Lib.hid (c1_15.out.ext hb16); have c2_16 := Lib.hid (c2_15.out.ext hb16); have LSc16 := Lib.hid (LSc15.out.ext hb16); have RH16 := Lib.hid (RH15.out.ext hb16); have k1_16 := Lib.hid (k1_15.out.ext hb16); have k2_16 := Lib.hid (k2_15.out.ext hb16); have LSk16 := Lib.hid (LSk15.out.ext hb16); have gqRB0 := RB16.out.cell (i := 0) rfl; have gqRB1 := RB16.out.cell (i := 1) rfl; have gqRC0 := RC16.out.cell (i := 0) rfl; have gqRC1 := RC16.out.cell (i := 1) rfl; clear HE15 D15 BA15 BB15 BP15 m1_15 m2_15 LSm15 RA15 s1_15 s2_15 RB15 t1_15 t2_15 RC15 f1_15 f2_15 RF15 g1_15 g2_15 RG15 c1_15 c2_15 LSc15 RH15 k1_15 k2_15 LSk15; clear hb16 hblk16 hs16 ho16)
        have HQ := sameB s1_16.out s2_16.out t1_16.out t2_16.out
        simp only [beq_self_eq_true, Bool.and_self] at HQ
        refine (HQ).mono ?_
        rintro e w17 ⟨rfl, hb17⟩
        have HE17 := Lib.hid (HE16.out.trans' hb17)
        have D17 := Lib.hid (D16.out.ext hb17)
        have BA17 := Lib.hid (BA16.out.ext hb17)
        have BB17 := Lib.hid (BB16.out.ext hb17)
        have BP17 := Lib.hid (BP16.out.ext hb17)
        have m1_17 := Lib.hid (m1_16.out.ext hb17)
        have m2_17 := Lib.hid (m2_16.out.ext hb17)
        have LSm17 := Lib.hid (LSm16.out.ext hb17)
        have RA17 := Lib.hid (RA16.out.ext hb17)
        have s1_17 := Lib.hid (s1_16.out.ext hb17)
        have s2_17 := Lib.hid (s2_16.out.ext hb17)
        have RB17 := Lib.hid (RB16.out.ext hb17)
        have t1_17 := Lib.hid (t1_16.out.ext hb17)
        have t2_17 := Lib.hid (t2_16.out.ext hb17)
        have RC17 := Lib.hid (RC16.out.ext hb17)
        have f1_17 := Lib.hid (f1_16.out.ext hb17)
        have f2_17 := Lib.hid (f2_16.out.ext hb17)
        have RF17 := Lib.hid (RF16.out.ext hb17)
        have g1_17 := Lib.hid (g1_16.out.ext hb17)
        have g2_17 := Lib.hid (g2_16.out.ext hb17)
        have RG17 := Lib.hid (RG16.out.ext hb17)
        have c1_17 := Lib.hid (c1_16.out.ext hb17)
        have c2_17 := Lib.hid (c2_16.out.ext hb17)
        have LSc17 := Lib.hid (LSc16.out.ext hb17)
        have RH17 := Lib.hid (RH16.out.ext hb17)
        have k1_17 := Lib.hid (k1_16.out.ext hb17)
        have k2_17 := Lib.hid (k2_16.out.ext hb17)
        have LSk17 := Lib.hid (LSk16.out.ext hb17)
        have RK17 := Lib.hid (RK16.out.ext hb17)
        clear HE16 D16 BA16 BB16 BP16 m1_16 m2_16 LSm16 RA16 s1_16 s2_16 RB16 t1_16 t2_16 RC16 f1_16 f2_16 RF16 g1_16 g2_16 RG16 c1_16 c2_16 LSc16 RH16 k1_16 k2_16 LSk16 RK16
        clear HQ hb17
        go_wp2_with fail
        have HQ := same_any Ac Ak cc ck l6 l6 w17 (by have := LL.out; omega) (by have := LL.out; omega) LSc17.out LSk17.out
        simp only [beq_self_eq_true] at HQ
        refine (HQ).mono ?_
        rintro e w18 ⟨rfl, hb18⟩
        have HE18 := Lib.hid (HE17.out.trans' hb18)
        have D18 := Lib.hid (D17.out.ext hb18)
        have BA18 := Lib.hid (BA17.out.ext hb18)
        have BB18 := Lib.hid (BB17.out.ext hb18)
        have BP18 := Lib.hid (BP17.out.ext hb18)
        have m1_18 := Lib.hid (m1_17.out.ext hb18)
        have m2_18 := Lib.hid (m2_17.out.ext hb18)
        have LSm18 := Lib.hid (LSm17.out.ext hb18)
        have RA18 := Lib.hid (RA17.out.ext hb18)
        have s1_18 := Lib.hid (s1_17.out.ext hb18)
        have s2_18 := Lib.hid (s2_17.out.ext hb18)
        have RB18 := Lib.hid (RB17.out.ext hb18)
        have t1_18 := Lib.hid (t1_17.out.ext hb18)
        have t2_18 := Lib.hid (t2_17.out.ext hb18)
        have RC18 := Lib.hid (RC17.out.ext hb18)
        have f1_18 := Lib.hid (f1_17.out.ext hb18)
        have f2_18 := Lib.hid (f2_17.out.ext hb18)
        have RF18 := Lib.hid (RF17.out.ext hb18)
        have g1_18 := Lib.hid (g1_17.out.ext hb18)
        have g2_18 := Lib.hid (g2_17.out.ext hb18)
        have RG18 := Lib.hid (RG17.out.ext hb18)
        have c1_18 := Lib.hid (c1_17.out.ext hb18)
        have c2_18 := Lib.hid (c2_17.out.ext hb18)
        have LSc18 := Lib.hid (LSc17.out.ext hb18)
        have RH18 := Lib.hid (RH17.out.ext hb18)
        have k1_18 := Lib.hid (k1_17.out.ext hb18)
        have k2_18 := Lib.hid (k2_17.out.ext hb18)
        have LSk18 := Lib.hid (LSk17.out.ext hb18)
        have RK18 := Lib.hid (RK17.out.ext hb18)
        clear HE17 D17 BA17 BB17 BP17 m1_17 m2_17 LSm17 RA17 s1_17 s2_17 RB17 t1_17 t2_17 RC17 f1_17 f2_17 RF17 g1_17 g2_17 RG17 c1_17 c2_17 LSc17 RH17 k1_17 k2_17 LSk17 RK17
        clear HQ hb18
        by_cases hes : es' = 0
        · have ee := EE.out hes
          have EC := Lib.hid ee.1
          have EU := Lib.hid ee.2
          clear ee EE
          subst hes
          skip
          have gcRH0_18 := RH18.out.cell (i := 0) rfl
          have gcRH1_18 := RH18.out.cell (i := 1) rfl
          have gcRF0_18 := RF18.out.cell (i := 0) rfl
          have gcRF1_18 := RF18.out.cell (i := 1) rfl
          have gcRK0_18 := RK18.out.cell (i := 0) rfl
          have gcRK1_18 := RK18.out.cell (i := 1) rfl
          have gcRG0_18 := RG18.out.cell (i := 0) rfl
          have gcRG1_18 := RG18.out.cell (i := 1) rfl
          go_wp2_with fail
          have HQ := sameB c1_18.out c2_18.out f1_18.out f2_18.out
          rw [EC.out] at HQ
          simp only [beq_self_eq_true, Bool.and_self] at HQ
          refine (HQ).mono ?_
          rintro e w19 ⟨rfl, hb19⟩
          have HE19 := Lib.hid (HE18.out.trans' hb19)
          have D19 := Lib.hid (D18.out.ext hb19)
          have BA19 := Lib.hid (BA18.out.ext hb19)
          have BB19 := Lib.hid (BB18.out.ext hb19)
          have BP19 := Lib.hid (BP18.out.ext hb19)
          have m1_19 := Lib.hid (m1_18.out.ext hb19)
          have m2_19 := Lib.hid (m2_18.out.ext hb19)
          have LSm19 := Lib.hid (LSm18.out.ext hb19)
          have RA19 := Lib.hid (RA18.out.ext hb19)
          have s1_19 := Lib.hid (s1_18.out.ext hb19)
          have s2_19 := Lib.hid (s2_18.out.ext hb19)
          have RB19 := Lib.hid (RB18.out.ext hb19)
          have t1_19 := Lib.hid (t1_18.out.ext hb19)
          have t2_19 := Lib.hid (t2_18.out.ext hb19)
          have RC19 := Lib.hid (RC18.out.ext hb19)
          have f1_19 := Lib.hid (f1_18.out.ext hb19)
          have f2_19 := Lib.hid (f2_18.out.ext hb19)
          have RF19 := Lib.hid (RF18.out.ext hb19)
          have g1_19 := Lib.hid (g1_18.out.ext hb19)
          have g2_19 := Lib.hid (g2_18.out.ext hb19)
          have RG19 := Lib.hid (RG18.out.ext hb19)
          have c1_19 := Lib.hid (c1_18.out.ext hb19)
          have c2_19 := Lib.hid (c2_18.out.ext hb19)
          have LSc19 := Lib.hid (LSc18.out.ext hb19)
          have RH19 := Lib.hid (RH18.out.ext hb19)
          have k1_19 := Lib.hid (k1_18.out.ext hb19)
          have k2_19 := Lib.hid (k2_18.out.ext hb19)
          have LSk19 := Lib.hid (LSk18.out.ext hb19)
          have RK19 := Lib.hid (RK18.out.ext hb19)
          clear HE18 D18 BA18 BB18 BP18 m1_18 m2_18 LSm18 RA18 s1_18 s2_18 RB18 t1_18 t2_18 RC18 f1_18 f2_18 RF18 g1_18 g2_18 RG18 c1_18 c2_18 LSc18 RH18 k1_18 k2_18 LSk18 RK18
          clear HQ hb19
          try clear gcRH0_18 gcRH1_18 gcRF0_18 gcRF1_18 gcRK0_18 gcRK1_18 gcRG0_18 gcRG1_18
          have gcRK0_19 := RK19.out.cell (i := 0) rfl
          have gcRK1_19 := RK19.out.cell (i := 1) rfl
          have gcRG0_19 := RG19.out.cell (i := 0) rfl
          have gcRG1_19 := RG19.out.cell (i := 1) rfl
          go_wp2_with fail
          have HQ := sameB k1_19.out k2_19.out g1_19.out g2_19.out
          rw [EU.out] at HQ
          simp only [beq_self_eq_true, Bool.and_self] at HQ
          refine (HQ).mono ?_
          rintro e w20 ⟨rfl, hb20⟩
          have HE20 := Lib.hid (HE19.out.trans' hb20)
          have D20 := Lib.hid (D19.out.ext hb20)
          have BA20 := Lib.hid (BA19.out.ext hb20)
          have BB20 := Lib.hid (BB19.out.ext hb20)
          have BP20 := Lib.hid (BP19.out.ext hb20)
          have m1_20 := Lib.hid (m1_19.out.ext hb20)
          have m2_20 := Lib.hid (m2_19.out.ext hb20)
          have LSm20 := Lib.hid (LSm19.out.ext hb20)
          have RA20 := Lib.hid (RA19.out.ext hb20)
          have s1_20 := Lib.hid (s1_19.out.ext hb20)
          have s2_20 := Lib.hid (s2_19.out.ext hb20)
          have RB20 := Lib.hid (RB19.out.ext hb20)
          have t1_20 := Lib.hid (t1_19.out.ext hb20)
          have t2_20 := Lib.hid (t2_19.out.ext hb20)
          have RC20 := Lib.hid (RC19.out.ext hb20)
          have f1_20 := Lib.hid (f1_19.out.ext hb20)
          have f2_20 := Lib.hid (f2_19.out.ext hb20)
          have RF20 := Lib.hid (RF19.out.ext hb20)
          have g1_20 := Lib.hid (g1_19.out.ext hb20)
          have g2_20 := Lib.hid (g2_19.out.ext hb20)
          have RG20 := Lib.hid (RG19.out.ext hb20)
          have c1_20 := Lib.hid (c1_19.out.ext hb20)
          have c2_20 := Lib.hid (c2_19.out.ext hb20)
          have LSc20 := Lib.hid (LSc19.out.ext hb20)
          have RH20 := Lib.hid (RH19.out.ext hb20)
          have k1_20 := Lib.hid (k1_19.out.ext hb20)
          have k2_20 := Lib.hid (k2_19.out.ext hb20)
          have LSk20 := Lib.hid (LSk19.out.ext hb20)
          have RK20 := Lib.hid (RK19.out.ext hb20)
          clear HE19 D19 BA19 BB19 BP19 m1_19 m2_19 LSm19 RA19 s1_19 s2_19 RB19 t1_19 t2_19 RC19 f1_19 f2_19 RF19 g1_19 g2_19 RG19 c1_19 c2_19 LSc19 RH19 k1_19 k2_19 LSk19 RK19
          clear HQ hb20
          go_wp2_with fail
          go_ret
          exact ⟨rfl, HE20.out⟩
        · have hes2 : (es' == 0) = false := by simp [hes]
          have hes3 : (es' != 0) = true := by simp [hes]
          go_wp2_with fail
          go_ret
          exact ⟨rfl, HE18.out⟩

end Go.Proofs.Ytjcngipaeoegcaa
