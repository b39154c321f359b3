/-
  Disks: what is told of any disk is what the document says. Printed by g21.py.
-/
import Derived.Test.YtjcngipaeoegcaaM4
import Derived.Test.YtjcngipaeoegcaaM2
import Derived.Test.YtjcngipaeoegcaaD6
import Derived.Test.YtjcngipaeoegcaaM1
namespace Go.Proofs.Ytjcngipaeoegcaa
open Go.RowKit
set_option allowUnsafeReducibility true
attribute [local reducible] Rec

set_option maxRecDepth 100000 in
set_option maxHeartbeats 4000000 in
theorem tells_any (v1 v2 vp : Value) (a b p : List UInt8) (tear : Int) (w : World) (ht1 : -9223372036854775808 ≤ tear) (ht2 : tear ≤ 9223372036854775807) (h1 : Bs w v1 a) (h2 : Bs w v2 b) (h3 : Bs w vp p) :
    Calls Try.prog 3 #[.agg #[v1, v2], vp, .int .i64 tear] w fun e w' => e = .returned (.bool true) ∧ Ext w w' := by
  have H1 := Lib.hid h1
  have H2 := Lib.hid h2
  have H3 := Lib.hid h3
  obtain ⟨A, c, rfl, hc, _⟩ := h1
  obtain ⟨A', c', rfl, hc', _⟩ := h2
  obtain ⟨A2, c2, rfl, hc2, _⟩ := h3
  have hcd : (#[.slice A a.length c, .slice A' b.length c'] : Array Value).all (·.oneCell') = true := by simp [Value.oneCell']
  obtain ⟨D, HD⟩ : ∃ D, Hid (w.heap.size = D) := ⟨_, Lib.hid rfl⟩
  obtain ⟨wx, Hwx⟩ : ∃ wx, Hid (w.alloc (.cells #[.slice A a.length c, .slice A' b.length c'] 24) = wx) := ⟨_, Lib.hid rfl⟩
  have HE := Lib.hid (show Ext w wx by rw [← Hwx.out]; exact Ext.a1 _ _)
  have D0 := Lib.hid (show Rec wx D 24 #[.slice A a.length c, .slice A' b.length c'] by rw [← Hwx.out, ← HD.out]; exact Rec.new w _ _)
  have BA := Lib.hid (H1.out.ext HE.out)
  have BB := Lib.hid (H2.out.ext HE.out)
  have BP := Lib.hid (H3.out.ext HE.out)
  clear H1 H2 H3
  go_enter Try.func3, Try.ntmps3
  go_wp2_with fail
  rw [Hwx.out, HD.out]
  clear Hwx
  have HE0 := HE
  have BA0 := BA
  have BB0 := BB
  have BP0 := BP
  clear HE BA BB BP
  refine (awake_any wx).mono ?_
  rintro e w1 ⟨rfl, hb1⟩
  have HE1 := Lib.hid (HE0.out.trans' hb1)
  have D1 := Lib.hid (D0.out.ext hb1)
  have BA1 := Lib.hid (BA0.out.ext hb1)
  have BB1 := Lib.hid (BB0.out.ext hb1)
  have BP1 := Lib.hid (BP0.out.ext hb1)
  clear HE0 D0 BA0 BB0 BP0
  clear hb1
  go_wp2_with (with_reducible refine wpList_load_row rfl 24 _ rfl D rfl 24 _ (0, 0) _ D1.out Try.underlying24 rfl (by kernel_rfl) ?_)
  have HQ := fewB BA1.out BB1.out
  obtain ⟨fb, Hfb⟩ : ∃ fb, Hid ((decide (a.length ≤ 3000) && decide (b.length ≤ 3000)) = fb) := ⟨_, Lib.hid rfl⟩
  rw [Hfb.out] at HQ
  refine (HQ).mono ?_
  rintro e w2 ⟨rfl, hb2⟩
  have HE2 := Lib.hid (HE1.out.trans' hb2)
  have D2 := Lib.hid (D1.out.ext hb2)
  have BA2 := Lib.hid (BA1.out.ext hb2)
  have BB2 := Lib.hid (BB1.out.ext hb2)
  have BP2 := Lib.hid (BP1.out.ext hb2)
  clear HE1 D1 BA1 BB1 BP1
  clear HQ hb2
  cases fb with
  | false =>
    go_wp2_with fail
    go_ret
    exact ⟨rfl, HE2.out⟩
  | true =>
    have hfew : a.length ≤ 3000 ∧ b.length ≤ 3000 := by have := Hfb.out; simp at this; exact this
    have ha := hfew.1
    have hb := hfew.2
    clear hfew Hfb
    by_cases hp3 : 3000 < p.length
    · have hd : decide ((3000 : Int) < (p.length : Int)) = true := by simp; omega
      go_wp2_with fail
      go_ret
      exact ⟨rfl, HE2.out⟩
    · have hd : decide ((3000 : Int) < (p.length : Int)) = false := by simp; omega
      go_wp2_with (with_reducible refine wpList_load_row rfl 24 _ rfl D rfl 24 _ (0, 0) _ D2.out Try.underlying24 rfl (by kernel_rfl) ?_)
      obtain ⟨r1, Hr1⟩ : ∃ r, Hid (Disk.opened a b = r) := ⟨_, Lib.hid rfl⟩
      obtain ⟨r2, Hr2⟩ : ∃ r, Hid (Disk.append a b p tear = r) := ⟨_, Lib.hid rfl⟩
      obtain ⟨r3, Hr3⟩ : ∃ r, Hid (Disk.snap a b tear = r) := ⟨_, Lib.hid rfl⟩
      have hrl : r1.2.1.length ≤ 3000 := by rw [← Hr1.out]; exact Disk.opened_recs a b 3000 ha hb
      have HQ := openB BA2.out BB2.out (by omega) (by omega); rw [Hr1.out] at HQ
      refine (HQ).mono ?_
      rintro e w3 ⟨m1, m2, Am, cm, rfl, hm1, hm2, hcm, hlm, hb3⟩
      have HE3 := Lib.hid (HE2.out.trans' hb3)
      have D3 := Lib.hid (D2.out.ext hb3)
      have BA3 := Lib.hid (BA2.out.ext hb3)
      have BB3 := Lib.hid (BB2.out.ext hb3)
      have BP3 := Lib.hid (BP2.out.ext hb3)
      have m1_3 := Lib.hid (hm1)
      have m2_3 := Lib.hid (hm2)
      have LSm3 := Lib.hid (hlm)
      clear HE2 D2 BA2 BB2 BP2
      have km1 := hm1.cell1
      have km2 := hm2.cell1
      clear HQ hm1 hm2 hb3 hlm hcm
      go_wp2_with first
        | (refine wpList_store_named rfl 24 _ _ rfl w3.heap.size _ rfl rfl 24 _ (heap_alloc_new _ _) (by kernel_rfl) rfl (by simp [km1, km2]) w3 (Ext.a1 _ _) (Nat.le_refl _) ?_; intro w4 hb4 hblk4 hs4 ho4; have RA4 := Lib.hid (show Rec w4 _ 24 #[m1, m2] from hblk4); have HZ4 := Lib.hid (show w4.heap.size = w3.heap.size + 1 by rw [hs4]; simp); have HE4 := Lib.hid (HE3.out.trans' hb4); have D4 := Lib.hid (D3.out.ext hb4); have BA4 := Lib.hid (BA3.out.ext hb4); have BB4 := Lib.hid (BB3.out.ext hb4); have BP4 := Lib.hid (BP3.out.ext hb4); have m1_4 := Lib.hid (m1_3.out.ext hb4); have m2_4 := Lib.hid (m2_3.out.ext hb4); have LSm4 := Lib.hid (LSm3.out.ext hb4); clear HE3 D3 BA3 BB3 BP3 m1_3 m2_3 LSm3; clear hb4 hblk4 hs4 ho4)
        | (with_reducible refine wpList_load_row rfl 24 _ rfl D rfl 24 _ (0, 0) _ D4.out Try.underlying24 rfl (by kernel_rfl) ?_)
      have HQ := refOpenB BA4.out BB4.out (by omega) (by omega); rw [Hr1.out] at HQ
      refine (HQ).mono ?_
      rintro e w5 ⟨n1, n2, An, cn, rfl, hn1, hn2, hcn, hln, hb5⟩
      have HE5 := Lib.hid (HE4.out.trans' hb5)
      have D5 := Lib.hid (D4.out.ext hb5)
      have BA5 := Lib.hid (BA4.out.ext hb5)
      have BB5 := Lib.hid (BB4.out.ext hb5)
      have BP5 := Lib.hid (BP4.out.ext hb5)
      have m1_5 := Lib.hid (m1_4.out.ext hb5)
      have m2_5 := Lib.hid (m2_4.out.ext hb5)
      have LSm5 := Lib.hid (LSm4.out.ext hb5)
      have RA5 := Lib.hid (RA4.out.ext hb5)
      have n1_5 := Lib.hid (hn1)
      have n2_5 := Lib.hid (hn2)
      have LSn5 := Lib.hid (hln)
      clear HE4 D4 BA4 BB4 BP4 m1_4 m2_4 LSm4 RA4
      have kn1 := hn1.cell1
      have kn2 := hn2.cell1
      clear HQ hn1 hn2 hb5 hln hcn
      go_wp2_with first
        | (refine wpList_store_named rfl 24 _ _ rfl w5.heap.size _ rfl rfl 24 _ (heap_alloc_new _ _) (by kernel_rfl) rfl (by simp [kn1, kn2]) w5 (Ext.a1 _ _) (Nat.le_refl _) ?_; intro w6 hb6 hblk6 hs6 ho6; have RB6 := Lib.hid (show Rec w6 _ 24 #[n1, n2] from hblk6); have HZ6 := Lib.hid (show w6.heap.size = w5.heap.size + 1 by rw [hs6]; simp); have HE6 := Lib.hid (HE5.out.trans' hb6); have D6 := Lib.hid (D5.out.ext hb6); have BA6 := Lib.hid (BA5.out.ext hb6); have BB6 := Lib.hid (BB5.out.ext hb6); have BP6 := Lib.hid (BP5.out.ext hb6); have m1_6 := Lib.hid (m1_5.out.ext hb6); have m2_6 := Lib.hid (m2_5.out.ext hb6); have LSm6 := Lib.hid (LSm5.out.ext hb6); have RA6 := Lib.hid (RA5.out.ext hb6); have n1_6 := Lib.hid (n1_5.out.ext hb6); have n2_6 := Lib.hid (n2_5.out.ext hb6); have LSn6 := Lib.hid (LSn5.out.ext hb6); clear HE5 D5 BA5 BB5 BP5 m1_5 m2_5 LSm5 RA5 n1_5 n2_5 LSn5; clear hb6 hblk6 hs6 ho6)
        | (with_reducible refine wpList_load_row rfl 24 _ rfl D rfl 24 _ (0, 0) _ D6.out Try.underlying24 rfl (by kernel_rfl) ?_)
      have HQ := appendB (tear := tear) BA6.out BB6.out BP6.out (by omega) (by omega) (by omega) ht1 ht2; rw [Hr2.out] at HQ
      refine (HQ).mono ?_
      rintro e w7 ⟨s1, s2, rfl, hs1, hs2, hb7⟩
      have HE7 := Lib.hid (HE6.out.trans' hb7)
      have D7 := Lib.hid (D6.out.ext hb7)
      have BA7 := Lib.hid (BA6.out.ext hb7)
      have BB7 := Lib.hid (BB6.out.ext hb7)
      have BP7 := Lib.hid (BP6.out.ext hb7)
      have m1_7 := Lib.hid (m1_6.out.ext hb7)
      have m2_7 := Lib.hid (m2_6.out.ext hb7)
      have LSm7 := Lib.hid (LSm6.out.ext hb7)
      have RA7 := Lib.hid (RA6.out.ext hb7)
      have n1_7 := Lib.hid (n1_6.out.ext hb7)
      have n2_7 := Lib.hid (n2_6.out.ext hb7)
      have LSn7 := Lib.hid (LSn6.out.ext hb7)
      have RB7 := Lib.hid (RB6.out.ext hb7)
      have s1_7 := Lib.hid (hs1)
      have s2_7 := Lib.hid (hs2)
      clear HE6 D6 BA6 BB6 BP6 m1_6 m2_6 LSm6 RA6 n1_6 n2_6 LSn6 RB6
      have ks1 := hs1.cell1
      have ks2 := hs2.cell1
      clear HQ hs1 hs2 hb7
      go_wp2_with first
        | (refine wpList_store_named rfl 24 _ _ rfl w7.heap.size _ rfl rfl 24 _ (heap_alloc_new _ _) (by kernel_rfl) rfl (by simp [ks1, ks2]) w7 (Ext.a1 _ _) (Nat.le_refl _) ?_; intro w8 hb8 hblk8 hs8 ho8; have RC8 := Lib.hid (show Rec w8 _ 24 #[s1, s2] from hblk8); have HZ8 := Lib.hid (show w8.heap.size = w7.heap.size + 1 by rw [hs8]; simp); have HE8 := Lib.hid (HE7.out.trans' hb8); have D8 := Lib.hid (D7.out.ext hb8); have BA8 := Lib.hid (BA7.out.ext hb8); have BB8 := Lib.hid (BB7.out.ext hb8); have BP8 := Lib.hid (BP7.out.ext hb8); have m1_8 := Lib.hid (m1_7.out.ext hb8); have m2_8 := Lib.hid (m2_7.out.ext hb8); have LSm8 := Lib.hid (LSm7.out.ext hb8); have RA8 := Lib.hid (RA7.out.ext hb8); have n1_8 := Lib.hid (n1_7.out.ext hb8); have n2_8 := Lib.hid (n2_7.out.ext hb8); have LSn8 := Lib.hid (LSn7.out.ext hb8); have RB8 := Lib.hid (RB7.out.ext hb8); have s1_8 := Lib.hid (s1_7.out.ext hb8); have s2_8 := Lib.hid (s2_7.out.ext hb8); clear HE7 D7 BA7 BB7 BP7 m1_7 m2_7 LSm7 RA7 n1_7 n2_7 LSn7 RB7 s1_7 s2_7; clear hb8 hblk8 hs8 ho8)
        | (with_reducible refine wpList_load_row rfl 24 _ rfl D rfl 24 _ (0, 0) _ D8.out Try.underlying24 rfl (by kernel_rfl) ?_)
      have HQ := refAppendB (tear := tear) BA8.out BB8.out BP8.out (by omega) (by omega) (by omega) ht1 ht2; rw [Hr2.out] at HQ
      refine (HQ).mono ?_
      rintro e w9 ⟨t1, t2, rfl, ht1, ht2, hb9⟩
      have HE9 := Lib.hid (HE8.out.trans' hb9)
      have D9 := Lib.hid (D8.out.ext hb9)
      have BA9 := Lib.hid (BA8.out.ext hb9)
      have BB9 := Lib.hid (BB8.out.ext hb9)
      have BP9 := Lib.hid (BP8.out.ext hb9)
      have m1_9 := Lib.hid (m1_8.out.ext hb9)
      have m2_9 := Lib.hid (m2_8.out.ext hb9)
      have LSm9 := Lib.hid (LSm8.out.ext hb9)
      have RA9 := Lib.hid (RA8.out.ext hb9)
      have n1_9 := Lib.hid (n1_8.out.ext hb9)
      have n2_9 := Lib.hid (n2_8.out.ext hb9)
      have LSn9 := Lib.hid (LSn8.out.ext hb9)
      have RB9 := Lib.hid (RB8.out.ext hb9)
      have s1_9 := Lib.hid (s1_8.out.ext hb9)
      have s2_9 := Lib.hid (s2_8.out.ext hb9)
      have RC9 := Lib.hid (RC8.out.ext hb9)
      have t1_9 := Lib.hid (ht1)
      have t2_9 := Lib.hid (ht2)
      clear HE8 D8 BA8 BB8 BP8 m1_8 m2_8 LSm8 RA8 n1_8 n2_8 LSn8 RB8 s1_8 s2_8 RC8
      have kt1 := ht1.cell1
      have kt2 := ht2.cell1
      clear HQ ht1 ht2 hb9
      go_wp2_with first
        | (refine wpList_store_named rfl 24 _ _ rfl w9.heap.size _ rfl rfl 24 _ (heap_alloc_new _ _) (by kernel_rfl) rfl (by simp [kt1, kt2]) w9 (Ext.a1 _ _) (Nat.le_refl _) ?_; intro w10 hb10 hblk10 hs10 ho10; have RE10 := Lib.hid (show Rec w10 _ 24 #[t1, t2] from hblk10); have HZ10 := Lib.hid (show w10.heap.size = w9.heap.size + 1 by rw [hs10]; simp); have HE10 := Lib.hid (HE9.out.trans' hb10); have D10 := Lib.hid (D9.out.ext hb10); have BA10 := Lib.hid (BA9.out.ext hb10); have BB10 := Lib.hid (BB9.out.ext hb10); have BP10 := Lib.hid (BP9.out.ext hb10); have m1_10 := Lib.hid (m1_9.out.ext hb10); have m2_10 := Lib.hid (m2_9.out.ext hb10); have LSm10 := Lib.hid (LSm9.out.ext hb10); have RA10 := Lib.hid (RA9.out.ext hb10); have n1_10 := Lib.hid (n1_9.out.ext hb10); have n2_10 := Lib.hid (n2_9.out.ext hb10); have LSn10 := Lib.hid (LSn9.out.ext hb10); have RB10 := Lib.hid (RB9.out.ext hb10); have s1_10 := Lib.hid (s1_9.out.ext hb10); have s2_10 := Lib.hid (s2_9.out.ext hb10); have RC10 := Lib.hid (RC9.out.ext hb10); have t1_10 := Lib.hid (t1_9.out.ext hb10); have t2_10 := Lib.hid (t2_9.out.ext hb10); clear HE9 D9 BA9 BB9 BP9 m1_9 m2_9 LSm9 RA9 n1_9 n2_9 LSn9 RB9 s1_9 s2_9 RC9 t1_9 t2_9; clear hb10 hblk10 hs10 ho10)
        | (with_reducible refine wpList_load_row rfl 24 _ rfl D rfl 24 _ (0, 0) _ D10.out Try.underlying24 rfl (by kernel_rfl) ?_)
      have HQ := snapB (tear := tear) BA10.out BB10.out (by omega) (by omega) ht1 ht2; rw [Hr3.out] at HQ
      refine (HQ).mono ?_
      rintro e w11 ⟨f1, f2, rfl, hf1, hf2, hb11⟩
      have HE11 := Lib.hid (HE10.out.trans' hb11)
      have D11 := Lib.hid (D10.out.ext hb11)
      have BA11 := Lib.hid (BA10.out.ext hb11)
      have BB11 := Lib.hid (BB10.out.ext hb11)
      have BP11 := Lib.hid (BP10.out.ext hb11)
      have m1_11 := Lib.hid (m1_10.out.ext hb11)
      have m2_11 := Lib.hid (m2_10.out.ext hb11)
      have LSm11 := Lib.hid (LSm10.out.ext hb11)
      have RA11 := Lib.hid (RA10.out.ext hb11)
      have n1_11 := Lib.hid (n1_10.out.ext hb11)
      have n2_11 := Lib.hid (n2_10.out.ext hb11)
      have LSn11 := Lib.hid (LSn10.out.ext hb11)
      have RB11 := Lib.hid (RB10.out.ext hb11)
      have s1_11 := Lib.hid (s1_10.out.ext hb11)
      have s2_11 := Lib.hid (s2_10.out.ext hb11)
      have RC11 := Lib.hid (RC10.out.ext hb11)
      have t1_11 := Lib.hid (t1_10.out.ext hb11)
      have t2_11 := Lib.hid (t2_10.out.ext hb11)
      have RE11 := Lib.hid (RE10.out.ext hb11)
      have f1_11 := Lib.hid (hf1)
      have f2_11 := Lib.hid (hf2)
      clear HE10 D10 BA10 BB10 BP10 m1_10 m2_10 LSm10 RA10 n1_10 n2_10 LSn10 RB10 s1_10 s2_10 RC10 t1_10 t2_10 RE10
      have kf1 := hf1.cell1
      have kf2 := hf2.cell1
      clear HQ hf1 hf2 hb11
      go_wp2_with first
        | (refine wpList_store_named rfl 24 _ _ rfl w11.heap.size _ rfl rfl 24 _ (heap_alloc_new _ _) (by kernel_rfl) rfl (by simp [kf1, kf2]) w11 (Ext.a1 _ _) (Nat.le_refl _) ?_; intro w12 hb12 hblk12 hs12 ho12; have RF12 := Lib.hid (show Rec w12 _ 24 #[f1, f2] from hblk12); have HZ12 := Lib.hid (show w12.heap.size = w11.heap.size + 1 by rw [hs12]; simp); have HE12 := Lib.hid (HE11.out.trans' hb12); have D12 := Lib.hid (D11.out.ext hb12); have BA12 := Lib.hid (BA11.out.ext hb12); have BB12 := Lib.hid (BB11.out.ext hb12); have BP12 := Lib.hid (BP11.out.ext hb12); have m1_12 := Lib.hid (m1_11.out.ext hb12); have m2_12 := Lib.hid (m2_11.out.ext hb12); have LSm12 := Lib.hid (LSm11.out.ext hb12); have RA12 := Lib.hid (RA11.out.ext hb12); have n1_12 := Lib.hid (n1_11.out.ext hb12); have n2_12 := Lib.hid (n2_11.out.ext hb12); have LSn12 := Lib.hid (LSn11.out.ext hb12); have RB12 := Lib.hid (RB11.out.ext hb12); have s1_12 := Lib.hid (s1_11.out.ext hb12); have s2_12 := Lib.hid (s2_11.out.ext hb12); have RC12 := Lib.hid (RC11.out.ext hb12); have t1_12 := Lib.hid (t1_11.out.ext hb12); have t2_12 := Lib.hid (t2_11.out.ext hb12); have RE12 := Lib.hid (RE11.out.ext hb12); have f1_12 := Lib.hid (f1_11.out.ext hb12); have f2_12 := Lib.hid (f2_11.out.ext hb12); clear HE11 D11 BA11 BB11 BP11 m1_11 m2_11 LSm11 RA11 n1_11 n2_11 LSn11 RB11 s1_11 s2_11 RC11 t1_11 t2_11 RE11 f1_11 f2_11; clear hb12 hblk12 hs12 ho12)
        | (with_reducible refine wpList_load_row rfl 24 _ rfl D rfl 24 _ (0, 0) _ D12.out Try.underlying24 rfl (by kernel_rfl) ?_)
      have HQ := refSnapB (tear := tear) BA12.out BB12.out (by omega) (by omega) ht1 ht2; rw [Hr3.out] at HQ
      refine (HQ).mono ?_
      rintro e w13 ⟨g1, g2, rfl, hg1, hg2, hb13⟩
      have HE13 := Lib.hid (HE12.out.trans' hb13)
      have D13 := Lib.hid (D12.out.ext hb13)
      have BA13 := Lib.hid (BA12.out.ext hb13)
      have BB13 := Lib.hid (BB12.out.ext hb13)
      have BP13 := Lib.hid (BP12.out.ext hb13)
      have m1_13 := Lib.hid (m1_12.out.ext hb13)
      have m2_13 := Lib.hid (m2_12.out.ext hb13)
      have LSm13 := Lib.hid (LSm12.out.ext hb13)
      have RA13 := Lib.hid (RA12.out.ext hb13)
      have n1_13 := Lib.hid (n1_12.out.ext hb13)
      have n2_13 := Lib.hid (n2_12.out.ext hb13)
      have LSn13 := Lib.hid (LSn12.out.ext hb13)
      have RB13 := Lib.hid (RB12.out.ext hb13)
      have s1_13 := Lib.hid (s1_12.out.ext hb13)
      have s2_13 := Lib.hid (s2_12.out.ext hb13)
      have RC13 := Lib.hid (RC12.out.ext hb13)
      have t1_13 := Lib.hid (t1_12.out.ext hb13)
      have t2_13 := Lib.hid (t2_12.out.ext hb13)
      have RE13 := Lib.hid (RE12.out.ext hb13)
      have f1_13 := Lib.hid (f1_12.out.ext hb13)
      have f2_13 := Lib.hid (f2_12.out.ext hb13)
      have RF13 := Lib.hid (RF12.out.ext hb13)
      have g1_13 := Lib.hid (hg1)
      have g2_13 := Lib.hid (hg2)
      clear HE12 D12 BA12 BB12 BP12 m1_12 m2_12 LSm12 RA12 n1_12 n2_12 LSn12 RB12 s1_12 s2_12 RC12 t1_12 t2_12 RE12 f1_12 f2_12 RF12
      have kg1 := hg1.cell1
      have kg2 := hg2.cell1
      clear HQ hg1 hg2 hb13
      go_wp2_with first
        | (refine wpList_store_named rfl 24 _ _ rfl w13.heap.size _ rfl rfl 24 _ (heap_alloc_new _ _) (by kernel_rfl) rfl (by simp [kg1, kg2]) w13 (Ext.a1 _ _) (Nat.le_refl _) ?_; intro w14 hb14 hblk14 hs14 ho14; have RG14 := Lib.hid (show Rec w14 _ 24 #[g1, g2] from hblk14); have HZ14 := Lib.hid (show w14.heap.size = w13.heap.size + 1 by rw [hs14]; simp); have HE14 := Lib.hid (HE13.out.trans' hb14); have D14 := Lib.hid (D13.out.ext hb14); have BA14 := Lib.hid (BA13.out.ext hb14); have BB14 := Lib.hid (BB13.out.ext hb14); have BP14 := Lib.hid (BP13.out.ext hb14); have m1_14 := Lib.hid (m1_13.out.ext hb14); have m2_14 := Lib.hid (m2_13.out.ext hb14); have LSm14 := Lib.hid (LSm13.out.ext hb14); have RA14 := Lib.hid (RA13.out.ext hb14); have n1_14 := Lib.hid (n1_13.out.ext hb14); have n2_14 := Lib.hid (n2_13.out.ext hb14); have LSn14 := Lib.hid (LSn13.out.ext hb14); have RB14 := Lib.hid (RB13.out.ext hb14); have s1_14 := Lib.hid (s1_13.out.ext hb14); have s2_14 := Lib.hid (s2_13.out.ext hb14); have RC14 := Lib.hid (RC13.out.ext hb14); have t1_14 := Lib.hid (t1_13.out.ext hb14); have t2_14 := Lib.hid (t2_13.out.ext hb14); have RE14 := Lib.hid (RE13.out.ext hb14); have f1_14 := Lib.hid (f1_13.out.ext hb14); have f2_14 := Lib.hid (f2_13.out.ext hb14); have RF14 := Lib.hid (RF13.out.ext hb14); have g1_14 := Lib.hid (g1_13.out.ext hb14); have g2_14 := Lib.hid (g2_13.out.ext hb14); clear HE13 D13 BA13 BB13 BP13 m1_13 m2_13 LSm13 RA13 n1_13 n2_13 LSn13 RB13 s1_13 s2_13 RC13 t1_13 t2_13 RE13 f1_13 f2_13 RF13 g1_13 g2_13; clear hb14 hblk14 hs14 ho14)
        | (with_reducible refine wpList_load_row rfl 24 _ rfl w3.heap.size rfl 24 _ (0, 0) _ RA14.out Try.underlying24 rfl (by kernel_rfl) ?_)
        | (with_reducible refine wpList_load_row rfl 24 _ rfl w5.heap.size rfl 24 _ (0, 0) _ RB14.out Try.underlying24 rfl (by kernel_rfl) ?_)
      have HQ := sameB m1_14.out m2_14.out n1_14.out n2_14.out
      simp only [beq_self_eq_true, Bool.and_self] at HQ
      refine (HQ).mono ?_
      rintro e w15 ⟨rfl, hb15⟩
      have HE15 := Lib.hid (HE14.out.trans' hb15)
      have D15 := Lib.hid (D14.out.ext hb15)
      have BA15 := Lib.hid (BA14.out.ext hb15)
      have BB15 := Lib.hid (BB14.out.ext hb15)
      have BP15 := Lib.hid (BP14.out.ext hb15)
      have m1_15 := Lib.hid (m1_14.out.ext hb15)
      have m2_15 := Lib.hid (m2_14.out.ext hb15)
      have LSm15 := Lib.hid (LSm14.out.ext hb15)
      have RA15 := Lib.hid (RA14.out.ext hb15)
      have n1_15 := Lib.hid (n1_14.out.ext hb15)
      have n2_15 := Lib.hid (n2_14.out.ext hb15)
      have LSn15 := Lib.hid (LSn14.out.ext hb15)
      have RB15 := Lib.hid (RB14.out.ext hb15)
      have s1_15 := Lib.hid (s1_14.out.ext hb15)
      have s2_15 := Lib.hid (s2_14.out.ext hb15)
      have RC15 := Lib.hid (RC14.out.ext hb15)
      have t1_15 := Lib.hid (t1_14.out.ext hb15)
      have t2_15 := Lib.hid (t2_14.out.ext hb15)
      have RE15 := Lib.hid (RE14.out.ext hb15)
      have f1_15 := Lib.hid (f1_14.out.ext hb15)
      have f2_15 := Lib.hid (f2_14.out.ext hb15)
      have RF15 := Lib.hid (RF14.out.ext hb15)
      have g1_15 := Lib.hid (g1_14.out.ext hb15)
      have g2_15 := Lib.hid (g2_14.out.ext hb15)
      have RG15 := Lib.hid (RG14.out.ext hb15)
      clear HE14 D14 BA14 BB14 BP14 m1_14 m2_14 LSm14 RA14 n1_14 n2_14 LSn14 RB14 s1_14 s2_14 RC14 t1_14 t2_14 RE14 f1_14 f2_14 RF14 g1_14 g2_14 RG14
      clear HQ hb15
      go_wp2_with fail
      have HQ := same_any Am An cm cn r1.2.1 r1.2.1 w15 (by omega) (by omega) LSm15.out LSn15.out
      simp only [beq_self_eq_true] at HQ
      refine (HQ).mono ?_
      rintro e w16 ⟨rfl, hb16⟩
      have HE16 := Lib.hid (HE15.out.trans' hb16)
      have D16 := Lib.hid (D15.out.ext hb16)
      have BA16 := Lib.hid (BA15.out.ext hb16)
      have BB16 := Lib.hid (BB15.out.ext hb16)
      have BP16 := Lib.hid (BP15.out.ext hb16)
      have m1_16 := Lib.hid (m1_15.out.ext hb16)
      have m2_16 := Lib.hid (m2_15.out.ext hb16)
      have LSm16 := Lib.hid (LSm15.out.ext hb16)
      have RA16 := Lib.hid (RA15.out.ext hb16)
      have n1_16 := Lib.hid (n1_15.out.ext hb16)
      have n2_16 := Lib.hid (n2_15.out.ext hb16)
      have LSn16 := Lib.hid (LSn15.out.ext hb16)
      have RB16 := Lib.hid (RB15.out.ext hb16)
      have s1_16 := Lib.hid (s1_15.out.ext hb16)
      have s2_16 := Lib.hid (s2_15.out.ext hb16)
      have RC16 := Lib.hid (RC15.out.ext hb16)
      have t1_16 := Lib.hid (t1_15.out.ext hb16)
      have t2_16 := Lib.hid (t2_15.out.ext hb16)
      have RE16 := Lib.hid (RE15.out.ext hb16)
      have f1_16 := Lib.hid (f1_15.out.ext hb16)
      have f2_16 := Lib.hid (f2_15.out.ext hb16)
      have RF16 := Lib.hid (RF15.out.ext hb16)
      have g1_16 := Lib.hid (g1_15.out.ext hb16)
      have g2_16 := Lib.hid (g2_15.out.ext hb16)
      have RG16 := Lib.hid (RG15.out.ext hb16)
      clear HE15 D15 BA15 BB15 BP15 m1_15 m2_15 LSm15 RA15 n1_15 n2_15 LSn15 RB15 s1_15 s2_15 RC15 t1_15 t2_15 RE15 f1_15 f2_15 RF15 g1_15 g2_15 RG15
      clear HQ hb16
      skip
      have gcRC0_16 := RC16.out.cell (i := 0) rfl
      have gcRC1_16 := RC16.out.cell (i := 1) rfl
      have gcRE0_16 := RE16.out.cell (i := 0) rfl
      have gcRE1_16 := RE16.out.cell (i := 1) rfl
      go_wp2_with fail
      have HQ := sameB s1_16.out s2_16.out t1_16.out t2_16.out
      simp only [beq_self_eq_true, Bool.and_self] at HQ
      refine (HQ).mono ?_
      rintro e w17 ⟨rfl, hb17⟩
      have HE17 := Lib.hid (HE16.out.trans' hb17)
      have D17 := Lib.hid (D16.out.ext hb17)
      have BA17 := Lib.hid (BA16.out.ext hb17)
      have BB17 := Lib.hid (BB16.out.ext hb17)
      have BP17 := Lib.hid (BP16.out.ext hb17)
      have m1_17 := Lib.hid (m1_16.out.ext hb17)
      have m2_17 := Lib.hid (m2_16.out.ext hb17)
      have LSm17 := Lib.hid (LSm16.out.ext hb17)
      have RA17 := Lib.hid (RA16.out.ext hb17)
      have n1_17 := Lib.hid (n1_16.out.ext hb17)
      have n2_17 := Lib.hid (n2_16.out.ext hb17)
      have LSn17 := Lib.hid (LSn16.out.ext hb17)
      have RB17 := Lib.hid (RB16.out.ext hb17)
      have s1_17 := Lib.hid (s1_16.out.ext hb17)
      have s2_17 := Lib.hid (s2_16.out.ext hb17)
      have RC17 := Lib.hid (RC16.out.ext hb17)
      have t1_17 := Lib.hid (t1_16.out.ext hb17)
      have t2_17 := Lib.hid (t2_16.out.ext hb17)
      have RE17 := Lib.hid (RE16.out.ext hb17)
      have f1_17 := Lib.hid (f1_16.out.ext hb17)
      have f2_17 := Lib.hid (f2_16.out.ext hb17)
      have RF17 := Lib.hid (RF16.out.ext hb17)
      have g1_17 := Lib.hid (g1_16.out.ext hb17)
      have g2_17 := Lib.hid (g2_16.out.ext hb17)
      have RG17 := Lib.hid (RG16.out.ext hb17)
      clear HE16 D16 BA16 BB16 BP16 m1_16 m2_16 LSm16 RA16 n1_16 n2_16 LSn16 RB16 s1_16 s2_16 RC16 t1_16 t2_16 RE16 f1_16 f2_16 RF16 g1_16 g2_16 RG16
      clear HQ hb17
      try clear gcRC0_16 gcRC1_16 gcRE0_16 gcRE1_16
      have gcRF0_17 := RF17.out.cell (i := 0) rfl
      have gcRF1_17 := RF17.out.cell (i := 1) rfl
      have gcRG0_17 := RG17.out.cell (i := 0) rfl
      have gcRG1_17 := RG17.out.cell (i := 1) rfl
      go_wp2_with fail
      have HQ := sameB f1_17.out f2_17.out g1_17.out g2_17.out
      simp only [beq_self_eq_true, Bool.and_self] at HQ
      refine (HQ).mono ?_
      rintro e w18 ⟨rfl, hb18⟩
      have HE18 := Lib.hid (HE17.out.trans' hb18)
      have D18 := Lib.hid (D17.out.ext hb18)
      have BA18 := Lib.hid (BA17.out.ext hb18)
      have BB18 := Lib.hid (BB17.out.ext hb18)
      have BP18 := Lib.hid (BP17.out.ext hb18)
      have m1_18 := Lib.hid (m1_17.out.ext hb18)
      have m2_18 := Lib.hid (m2_17.out.ext hb18)
      have LSm18 := Lib.hid (LSm17.out.ext hb18)
      have RA18 := Lib.hid (RA17.out.ext hb18)
      have n1_18 := Lib.hid (n1_17.out.ext hb18)
      have n2_18 := Lib.hid (n2_17.out.ext hb18)
      have LSn18 := Lib.hid (LSn17.out.ext hb18)
      have RB18 := Lib.hid (RB17.out.ext hb18)
      have s1_18 := Lib.hid (s1_17.out.ext hb18)
      have s2_18 := Lib.hid (s2_17.out.ext hb18)
      have RC18 := Lib.hid (RC17.out.ext hb18)
      have t1_18 := Lib.hid (t1_17.out.ext hb18)
      have t2_18 := Lib.hid (t2_17.out.ext hb18)
      have RE18 := Lib.hid (RE17.out.ext hb18)
      have f1_18 := Lib.hid (f1_17.out.ext hb18)
      have f2_18 := Lib.hid (f2_17.out.ext hb18)
      have RF18 := Lib.hid (RF17.out.ext hb18)
      have g1_18 := Lib.hid (g1_17.out.ext hb18)
      have g2_18 := Lib.hid (g2_17.out.ext hb18)
      have RG18 := Lib.hid (RG17.out.ext hb18)
      clear HE17 D17 BA17 BB17 BP17 m1_17 m2_17 LSm17 RA17 n1_17 n2_17 LSn17 RB17 s1_17 s2_17 RC17 t1_17 t2_17 RE17 f1_17 f2_17 RF17 g1_17 g2_17 RG17
      clear HQ hb18
      go_wp2_with fail
      refine (new_any w18).mono ?_
      rintro e w19 ⟨n1, rfl, hn, hb19⟩
      have HE19 := Lib.hid (HE18.out.trans' hb19)
      have D19 := Lib.hid (D18.out.ext hb19)
      have BA19 := Lib.hid (BA18.out.ext hb19)
      have BB19 := Lib.hid (BB18.out.ext hb19)
      have BP19 := Lib.hid (BP18.out.ext hb19)
      have m1_19 := Lib.hid (m1_18.out.ext hb19)
      have m2_19 := Lib.hid (m2_18.out.ext hb19)
      have LSm19 := Lib.hid (LSm18.out.ext hb19)
      have RA19 := Lib.hid (RA18.out.ext hb19)
      have n1_19 := Lib.hid (n1_18.out.ext hb19)
      have n2_19 := Lib.hid (n2_18.out.ext hb19)
      have LSn19 := Lib.hid (LSn18.out.ext hb19)
      have RB19 := Lib.hid (RB18.out.ext hb19)
      have s1_19 := Lib.hid (s1_18.out.ext hb19)
      have s2_19 := Lib.hid (s2_18.out.ext hb19)
      have RC19 := Lib.hid (RC18.out.ext hb19)
      have t1_19 := Lib.hid (t1_18.out.ext hb19)
      have t2_19 := Lib.hid (t2_18.out.ext hb19)
      have RE19 := Lib.hid (RE18.out.ext hb19)
      have f1_19 := Lib.hid (f1_18.out.ext hb19)
      have f2_19 := Lib.hid (f2_18.out.ext hb19)
      have RF19 := Lib.hid (RF18.out.ext hb19)
      have g1_19 := Lib.hid (g1_18.out.ext hb19)
      have g2_19 := Lib.hid (g2_18.out.ext hb19)
      have RG19 := Lib.hid (RG18.out.ext hb19)
      have N119 := Lib.hid (hn)
      clear HE18 D18 BA18 BB18 BP18 m1_18 m2_18 LSm18 RA18 n1_18 n2_18 LSn18 RB18 s1_18 s2_18 RC18 t1_18 t2_18 RE18 f1_18 f2_18 RF18 g1_18 g2_18 RG18
      clear hn hb19
      go_wp2_with fail
      refine (refNew_any w19).mono ?_
      rintro e w20 ⟨n2, rfl, hn, hb20⟩
      have HE20 := Lib.hid (HE19.out.trans' hb20)
      have D20 := Lib.hid (D19.out.ext hb20)
      have BA20 := Lib.hid (BA19.out.ext hb20)
      have BB20 := Lib.hid (BB19.out.ext hb20)
      have BP20 := Lib.hid (BP19.out.ext hb20)
      have m1_20 := Lib.hid (m1_19.out.ext hb20)
      have m2_20 := Lib.hid (m2_19.out.ext hb20)
      have LSm20 := Lib.hid (LSm19.out.ext hb20)
      have RA20 := Lib.hid (RA19.out.ext hb20)
      have n1_20 := Lib.hid (n1_19.out.ext hb20)
      have n2_20 := Lib.hid (n2_19.out.ext hb20)
      have LSn20 := Lib.hid (LSn19.out.ext hb20)
      have RB20 := Lib.hid (RB19.out.ext hb20)
      have s1_20 := Lib.hid (s1_19.out.ext hb20)
      have s2_20 := Lib.hid (s2_19.out.ext hb20)
      have RC20 := Lib.hid (RC19.out.ext hb20)
      have t1_20 := Lib.hid (t1_19.out.ext hb20)
      have t2_20 := Lib.hid (t2_19.out.ext hb20)
      have RE20 := Lib.hid (RE19.out.ext hb20)
      have f1_20 := Lib.hid (f1_19.out.ext hb20)
      have f2_20 := Lib.hid (f2_19.out.ext hb20)
      have RF20 := Lib.hid (RF19.out.ext hb20)
      have g1_20 := Lib.hid (g1_19.out.ext hb20)
      have g2_20 := Lib.hid (g2_19.out.ext hb20)
      have RG20 := Lib.hid (RG19.out.ext hb20)
      have N120 := Lib.hid (N119.out.ext hb20)
      have N220 := Lib.hid (hn)
      clear HE19 D19 BA19 BB19 BP19 m1_19 m2_19 LSm19 RA19 n1_19 n2_19 LSn19 RB19 s1_19 s2_19 RC19 t1_19 t2_19 RE19 f1_19 f2_19 RF19 g1_19 g2_19 RG19 N119
      clear hn hb20
      go_wp2_with fail
      have HQ := sameB N120.out (Bs.nil w20) N220.out (Bs.nil w20)
      simp only [beq_self_eq_true, Bool.and_self] at HQ
      refine (HQ).mono ?_
      rintro e w21 ⟨rfl, hb21⟩
      have HE21 := Lib.hid (HE20.out.trans' hb21)
      have D21 := Lib.hid (D20.out.ext hb21)
      have BA21 := Lib.hid (BA20.out.ext hb21)
      have BB21 := Lib.hid (BB20.out.ext hb21)
      have BP21 := Lib.hid (BP20.out.ext hb21)
      have m1_21 := Lib.hid (m1_20.out.ext hb21)
      have m2_21 := Lib.hid (m2_20.out.ext hb21)
      have LSm21 := Lib.hid (LSm20.out.ext hb21)
      have RA21 := Lib.hid (RA20.out.ext hb21)
      have n1_21 := Lib.hid (n1_20.out.ext hb21)
      have n2_21 := Lib.hid (n2_20.out.ext hb21)
      have LSn21 := Lib.hid (LSn20.out.ext hb21)
      have RB21 := Lib.hid (RB20.out.ext hb21)
      have s1_21 := Lib.hid (s1_20.out.ext hb21)
      have s2_21 := Lib.hid (s2_20.out.ext hb21)
      have RC21 := Lib.hid (RC20.out.ext hb21)
      have t1_21 := Lib.hid (t1_20.out.ext hb21)
      have t2_21 := Lib.hid (t2_20.out.ext hb21)
      have RE21 := Lib.hid (RE20.out.ext hb21)
      have f1_21 := Lib.hid (f1_20.out.ext hb21)
      have f2_21 := Lib.hid (f2_20.out.ext hb21)
      have RF21 := Lib.hid (RF20.out.ext hb21)
      have g1_21 := Lib.hid (g1_20.out.ext hb21)
      have g2_21 := Lib.hid (g2_20.out.ext hb21)
      have RG21 := Lib.hid (RG20.out.ext hb21)
      have N121 := Lib.hid (N120.out.ext hb21)
      have N221 := Lib.hid (N220.out.ext hb21)
      clear HE20 D20 BA20 BB20 BP20 m1_20 m2_20 LSm20 RA20 n1_20 n2_20 LSn20 RB20 s1_20 s2_20 RC20 t1_20 t2_20 RE20 f1_20 f2_20 RF20 g1_20 g2_20 RG20 N120 N220
      clear HQ hb21
      go_wp2_with fail
      go_ret
      exact ⟨rfl, HE21.out⟩

end Go.Proofs.Ytjcngipaeoegcaa
