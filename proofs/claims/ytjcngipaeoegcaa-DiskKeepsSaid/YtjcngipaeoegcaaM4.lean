/-
  Joined: DVal, D20, DIn.
-/
import Derived.Test.YtjcngipaeoegcaaM3
import Derived.Test.YtjcngipaeoegcaaM2
import Derived.Test.YtjcngipaeoegcaaD1
import Derived.Deep.SlicePairs
import Derived.Lib.SmallJoins
namespace Go.Proofs.Ytjcngipaeoegcaa
open Go.RowKit

section
variable {w : World} {v1 v2 u1 u2 vp : Value} {a b x y p : List UInt8} {tear : Int}
theorem openB (h1 : Bs w v1 a) (h2 : Bs w v2 b) (ha : a.length ≤ 10000000) (hb : b.length ≤ 10000000) : Calls Try.prog 9 #[.agg #[v1, v2]] w (RetOpen w (Disk.opened a b)) := by
  obtain ⟨A, c, rfl, hc, hr⟩ := h1
  obtain ⟨A', c', rfl, hc', hr'⟩ := h2
  exact open_any A A' c c' a b w hc hc' ha hb hr hr'
theorem refOpenB (h1 : Bs w v1 a) (h2 : Bs w v2 b) (ha : a.length ≤ 10000000) (hb : b.length ≤ 10000000) : Calls Try.prog 10 #[.agg #[v1, v2]] w (RetOpen w (Disk.opened a b)) := by
  obtain ⟨A, c, rfl, hc, hr⟩ := h1
  obtain ⟨A', c', rfl, hc', hr'⟩ := h2
  exact refOpen_any A A' c c' a b w hc hc' ha hb hr hr'
theorem appendB (h1 : Bs w v1 a) (h2 : Bs w v2 b) (h3 : Bs w vp p) (ha : a.length ≤ 10000000) (hb : b.length ≤ 10000000) (hp : p.length ≤ 1000000) (ht1 : -9223372036854775808 ≤ tear) (ht2 : tear ≤ 9223372036854775807) : Calls Try.prog 11 #[.agg #[v1, v2], vp, .int .i64 tear] w (RetDisk w (Disk.append a b p tear)) := by
  obtain ⟨A, c, rfl, hc, hr⟩ := h1
  obtain ⟨A', c', rfl, hc', hr'⟩ := h2
  obtain ⟨A2, c2, rfl, hc2, hr2⟩ := h3
  exact append_any A A' c c' a b A2 c2 p tear w ht1 ht2 hp hr2 hc hc' ha hb hr hr'
theorem refAppendB (h1 : Bs w v1 a) (h2 : Bs w v2 b) (h3 : Bs w vp p) (ha : a.length ≤ 10000000) (hb : b.length ≤ 10000000) (hp : p.length ≤ 1000000) (ht1 : -9223372036854775808 ≤ tear) (ht2 : tear ≤ 9223372036854775807) : Calls Try.prog 12 #[.agg #[v1, v2], vp, .int .i64 tear] w (RetDisk w (Disk.append a b p tear)) := by
  obtain ⟨A, c, rfl, hc, hr⟩ := h1
  obtain ⟨A', c', rfl, hc', hr'⟩ := h2
  obtain ⟨A2, c2, rfl, hc2, hr2⟩ := h3
  exact refAppend_any A A' c c' a b A2 c2 p tear w ht1 ht2 hp hr2 hc hc' ha hb hr hr'
theorem snapB (h1 : Bs w v1 a) (h2 : Bs w v2 b) (ha : a.length ≤ 10000000) (hb : b.length ≤ 10000000) (ht1 : -9223372036854775808 ≤ tear) (ht2 : tear ≤ 9223372036854775807) : Calls Try.prog 13 #[.agg #[v1, v2], .int .i64 tear] w (RetDisk w (Disk.snap a b tear)) := by
  obtain ⟨A, c, rfl, hc, hr⟩ := h1
  obtain ⟨A', c', rfl, hc', hr'⟩ := h2
  exact snap_any A A' c c' a b tear w ht1 ht2 hc hc' ha hb hr hr'
theorem refSnapB (h1 : Bs w v1 a) (h2 : Bs w v2 b) (ha : a.length ≤ 10000000) (hb : b.length ≤ 10000000) (ht1 : -9223372036854775808 ≤ tear) (ht2 : tear ≤ 9223372036854775807) : Calls Try.prog 14 #[.agg #[v1, v2], .int .i64 tear] w (RetDisk w (Disk.snap a b tear)) := by
  obtain ⟨A, c, rfl, hc, hr⟩ := h1
  obtain ⟨A', c', rfl, hc', hr'⟩ := h2
  exact refSnap_any A A' c c' a b tear w ht1 ht2 hc hc' ha hb hr hr'
theorem sameB (h1 : Bs w v1 a) (h2 : Bs w v2 b) (h3 : Bs w u1 x) (h4 : Bs w u2 y) : Calls Try.prog 15 #[.agg #[v1, v2], .agg #[u1, u2]] w fun e w' => e = .returned (.bool (a == x && b == y)) ∧ Ext w w' := by
  obtain ⟨A, c, rfl, hc, hr⟩ := h1
  obtain ⟨A', c', rfl, hc', hr'⟩ := h2
  obtain ⟨A2, c2, rfl, hc2, hr2⟩ := h3
  obtain ⟨A3, c3, rfl, hc3, hr3⟩ := h4
  exact same_d_any A A' A2 A3 c c' c2 c3 a b x y w hr hr' hr2 hr3
theorem fewB (h1 : Bs w v1 a) (h2 : Bs w v2 b) : Calls Try.prog 8 #[.agg #[v1, v2]] w fun e w' => e = .returned (.bool (decide (a.length ≤ 3000) && decide (b.length ≤ 3000))) ∧ Ext w w' := by
  obtain ⟨A, c, rfl, hc, hr⟩ := h1
  obtain ⟨A', c', rfl, hc', hr'⟩ := h2
  exact few_d_any A A' a.length b.length c c' w
end
theorem Ls.elem {w : World} {A : Option Addr} {ls : List (List UInt8)} (h : Ls w A ls) {k : Nat} {x : List UInt8} (hx : ls[k]? = some x) : ∃ ad u, A = some ad ∧ w.cell? (ad.add k) = some u ∧ Bs w u x := by
  obtain ⟨hk, rfl⟩ := List.getElem?_eq_some_iff.1 hx
  exact h.at_ hk

/-- The fixed calls. -/
theorem fixedD : ∃ n0 d1 d2 d3 s3 q, Disk.new = n0 ∧ Disk.append n0 [] [97] 0 = ((d1, []), 0) ∧ Disk.append d1 [] [98] 3 = ((d2, []), 230) ∧ Disk.append d2 [] [99] 0 = ((d3, []), 0) ∧ Disk.opened d3 [] = ((d3, []), [[97], [99]], 0)
    ∧ Disk.snap d3 [] 0 = ((d3, s3), 0) ∧ Disk.snap d3 s3 5 = (q, 230) ∧ Disk.opened d3 s3 = ((d3, s3), [[97], [99]], 0) ∧ Disk.opened [] [] = (([], []), [], 60) ∧ n0.length ≤ 100 ∧ d1.length ≤ 100 ∧ d2.length ≤ 100 ∧ d3.length ≤ 100 ∧ s3.length = 16 :=
  ⟨[1, 3, 1, 1, 0, 169, 154, 162, 169], [1, 3, 1, 1, 0, 169, 154, 162, 169, 1, 1, 97, 18, 185, 42, 69], [1, 3, 1, 1, 0, 169, 154, 162, 169, 1, 1, 97, 18, 185, 42, 69, 1, 1], [1, 3, 1, 1, 0, 169, 154, 162, 169, 1, 1, 97, 18, 185, 42, 69, 1, 1, 99, 229, 201, 17, 164],
   [1, 10, 1, 2, 1, 2, 1, 1, 97, 1, 1, 99, 95, 151, 79, 144], _, by decide +kernel, by decide +kernel, by decide +kernel, by decide +kernel, by decide +kernel, by decide +kernel,
   (show _ = ((([1, 10, 1, 3], [1, 10, 1, 2, 1, 2, 1, 1, 97, 1, 1, 99, 95, 151, 79, 144]) : List UInt8 × List UInt8), (230 : Int)) by decide +kernel), by decide +kernel, by decide +kernel, by decide, by decide, by decide, by decide, by decide⟩

end Go.Proofs.Ytjcngipaeoegcaa

namespace Go.Proofs.Ytjcngipaeoegcaa
open Go.RowKit
set_option allowUnsafeReducibility true
attribute [local reducible] Rec

set_option maxRecDepth 100000 in
set_option maxHeartbeats 4000000 in
theorem awake_any (w : World) : Calls Try.prog 7 #[] w fun e w' => e = .returned (.bool true) ∧ Ext w w' := by
  have kc1 := bytes_const1 22 5 Try.underlying22 Try.underlying5
  obtain ⟨n0, d1, d2, d3, s3, q, e0, e1, e2, e3, e4, e5, e6, e7, e8, l0, l1, l2, l3, l4⟩ := fixedD
  have E0 := Lib.hid e0
  have E1 := Lib.hid e1
  have E2 := Lib.hid e2
  have E3 := Lib.hid e3
  have E4 := Lib.hid e4
  have E5 := Lib.hid e5
  have E6 := Lib.hid e6
  have E7 := Lib.hid e7
  have E8 := Lib.hid e8
  have L4 := Lib.hid l4
  have l4' : s3.length ≤ 100 := by omega
  clear e0 e1 e2 e3 e4 e5 e6 e7 e8 l4
  have HE := Lib.hid (show Ext w w from Below.refl w.heap.size w)
  go_enter Try.func7, Try.ntmps7
  go_wp2_with fail
  refine (new_any w).mono ?_
  rintro e w1 ⟨n1, rfl, hn, hb1⟩
  have HE1 := Lib.hid (HE.out.trans' hb1)
  have N1 := Lib.hid (hn)
  skip
  have cn := N1.out.cell1
  rw [E0.out] at N1
  clear hn
  go_wp2_with fail
  obtain ⟨wca, hwca⟩ : ∃ wc, w1.alloc (.cells #[.int .u8 97] 5 (1, 2)) = wc := ⟨_, rfl⟩
  have hbca : Ext w1 wca := by rw [← hwca]; exact Ext.a1 _ _
  have Pa : Bs wca (.slice (some ⟨w1.heap.size, 0, none⟩) 1 1) [97] := ⟨_, _, rfl, by simp, by rw [← hwca]; exact Row.newM w1 #[.int .u8 97] 5 (1, 2)⟩
  rw [hwca]
  have HEca := Lib.hid (HE1.out.trans' hbca)
  have Nca := Lib.hid (N1.out.ext hbca)
  have Pca := Lib.hid Pa
  clear HE1 N1
  clear hwca hbca Pa
  have Zca := Lib.hid (Bs.nil wca)
  have HQ := appendB (tear := 0) Nca.out Zca.out Pca.out (by omega) (by simp) (by simp) (by omega) (by omega)
  rw [E1.out] at HQ
  refine (HQ).mono ?_
  rintro e w2 ⟨x1, x2, rfl, hx1, hx2, hb2⟩
  have HE2 := Lib.hid (HEca.out.trans' hb2)
  have N2 := Lib.hid (Nca.out.ext hb2)
  have P2 := Lib.hid (Pca.out.ext hb2)
  have Z2 := Lib.hid (Zca.out.ext hb2)
  have x1_2 := Lib.hid (hx1)
  have x2_2 := Lib.hid (hx2)
  clear HEca Nca Pca Zca
  have cx1 := hx1.cell1
  have cx2 := hx2.cell1
  have nx1 := Lib.hid (noBy2 hx1.noB8 hx2.noB8)
  clear HQ hx1 hx2 hb2
  have hDw : w.heap.size ≤ w2.heap.size := HE2.out.size
  go_wp2_with first
    | (refine wpList_store_named rfl 24 _ _ rfl w2.heap.size _ rfl rfl 24 _ (heap_alloc_new _ _) (by kernel_rfl) rfl (by simp [cx1, cx2]) w2 (Ext.a1 _ _) (Nat.le_refl _) ?_; intro w3 hb3 hblk3 hs3 ho3; have D3 := Lib.hid (show Rec w3 _ 24 #[x1, x2] from hblk3); have HZ3 := Lib.hid (show w3.heap.size = w2.heap.size + 1 by rw [hs3]; simp); have HE3 := Lib.hid (HE2.out.trans' hb3); have x1_3 := Lib.hid (x1_2.out.ext hb3); have x2_3 := Lib.hid (x2_2.out.ext hb3); clear HE2 x1_2 x2_2; clear hb3 hblk3 hs3 ho3)
    | (with_reducible refine wpList_load_row rfl 24 _ rfl w2.heap.size rfl 24 _ (0, 0) _ D3.out Try.underlying24 rfl (by kernel_rfl) ?_)
  obtain ⟨D, HD⟩ : ∃ D, Hid (w2.heap.size = D) := ⟨_, Lib.hid rfl⟩
  have hDB : w.heap.size ≤ D := by rw [← HD.out]; exact hDw
  rw [HD.out] at D3 ⊢
  obtain ⟨wcb, hwcb⟩ : ∃ wc, w3.alloc (.cells #[.int .u8 98] 5 (1, 2)) = wc := ⟨_, rfl⟩
  have hbcb : Ext w3 wcb := by rw [← hwcb]; exact Ext.a1 _ _
  have Pb : Bs wcb (.slice (some ⟨w3.heap.size, 0, none⟩) 1 1) [98] := ⟨_, _, rfl, by simp, by rw [← hwcb]; exact Row.newM w3 #[.int .u8 98] 5 (1, 2)⟩
  rw [hwcb]
  have HEcb := Lib.hid (HE3.out.trans' hbcb)
  have x1_cb := Lib.hid (x1_3.out.ext hbcb)
  have x2_cb := Lib.hid (x2_3.out.ext hbcb)
  have Dcb := Lib.hid (D3.out.ext hbcb)
  have Pcb := Lib.hid Pb
  clear HE3 x1_3 x2_3 D3
  clear hwcb hbcb Pb
  have HQ := appendB (tear := 3) x1_cb.out x2_cb.out Pcb.out (by omega) (by simp) (by simp) (by omega) (by omega)
  rw [E2.out] at HQ
  refine (HQ).mono ?_
  rintro e w4 ⟨y1, y2, rfl, hy1, hy2, hb4⟩
  have HE4 := Lib.hid (HEcb.out.trans' hb4)
  have x1_4 := Lib.hid (x1_cb.out.ext hb4)
  have x2_4 := Lib.hid (x2_cb.out.ext hb4)
  have D4 := Lib.hid (Dcb.out.ext hb4)
  have P4 := Lib.hid (Pcb.out.ext hb4)
  have y1_4 := Lib.hid (hy1)
  have y2_4 := Lib.hid (hy2)
  clear HEcb x1_cb x2_cb Dcb Pcb
  have cy1 := hy1.cell1
  have cy2 := hy2.cell1
  have ny1 := Lib.hid (noBy2 hy1.noB8 hy2.noB8)
  clear HQ hy1 hy2 hb4
  go_wp2_with first
    | (refine wpList_store_rec rfl 24 _ _ rfl D _ rfl rfl 24 _ D4.out (by kernel_rfl) rfl (by simp [cy1, cy2]) w HE4.out (hDB) ?_; intro w5 hb5 hblk5 hg5 hs5; have HE5 := Lib.hid hb5; have x1_5 := Lib.hid (x1_4.out.rec D4.out nx1.out hg5); have x2_5 := Lib.hid (x2_4.out.rec D4.out nx1.out hg5); have D5 := Lib.hid (show Rec w5 _ 24 #[y1, y2] from hblk5); have y1_5 := Lib.hid (y1_4.out.rec D4.out nx1.out hg5); have y2_5 := Lib.hid (y2_4.out.rec D4.out nx1.out hg5); clear HE4 x1_4 x2_4 D4 y1_4 y2_4; clear hb5 hblk5 hg5 hs5)
    | (with_reducible refine wpList_load_row rfl 24 _ rfl D rfl 24 _ (0, 0) _ D5.out Try.underlying24 rfl (by kernel_rfl) ?_)
  obtain ⟨wcc, hwcc⟩ : ∃ wc, w5.alloc (.cells #[.int .u8 99] 5 (1, 2)) = wc := ⟨_, rfl⟩
  have hbcc : Ext w5 wcc := by rw [← hwcc]; exact Ext.a1 _ _
  have Pc : Bs wcc (.slice (some ⟨w5.heap.size, 0, none⟩) 1 1) [99] := ⟨_, _, rfl, by simp, by rw [← hwcc]; exact Row.newM w5 #[.int .u8 99] 5 (1, 2)⟩
  rw [hwcc]
  have HEcc := Lib.hid (HE5.out.trans' hbcc)
  have Dcc := Lib.hid (D5.out.ext hbcc)
  have y1_cc := Lib.hid (y1_5.out.ext hbcc)
  have y2_cc := Lib.hid (y2_5.out.ext hbcc)
  have Pcc := Lib.hid Pc
  clear HE5 D5 y1_5 y2_5
  clear hwcc hbcc Pc
  have HQ := appendB (tear := 0) y1_cc.out y2_cc.out Pcc.out (by omega) (by simp) (by simp) (by omega) (by omega)
  rw [E3.out] at HQ
  refine (HQ).mono ?_
  rintro e w6 ⟨z1, z2, rfl, hz1, hz2, hb6⟩
  have HE6 := Lib.hid (HEcc.out.trans' hb6)
  have D6 := Lib.hid (Dcc.out.ext hb6)
  have y1_6 := Lib.hid (y1_cc.out.ext hb6)
  have y2_6 := Lib.hid (y2_cc.out.ext hb6)
  have P6 := Lib.hid (Pcc.out.ext hb6)
  have z1_6 := Lib.hid (hz1)
  have z2_6 := Lib.hid (hz2)
  clear HEcc Dcc y1_cc y2_cc Pcc
  have cz1 := hz1.cell1
  have cz2 := hz2.cell1
  have nz1 := Lib.hid (noBy2 hz1.noB8 hz2.noB8)
  clear HQ hz1 hz2 hb6
  go_wp2_with first
    | (refine wpList_store_rec rfl 24 _ _ rfl D _ rfl rfl 24 _ D6.out (by kernel_rfl) rfl (by simp [cz1, cz2]) w HE6.out (hDB) ?_; intro w7 hb7 hblk7 hg7 hs7; have HE7 := Lib.hid hb7; have D7 := Lib.hid (show Rec w7 _ 24 #[z1, z2] from hblk7); have y1_7 := Lib.hid (y1_6.out.rec D6.out ny1.out hg7); have y2_7 := Lib.hid (y2_6.out.rec D6.out ny1.out hg7); have z1_7 := Lib.hid (z1_6.out.rec D6.out ny1.out hg7); have z2_7 := Lib.hid (z2_6.out.rec D6.out ny1.out hg7); clear HE6 D6 y1_6 y2_6 z1_6 z2_6; clear hb7 hblk7 hg7 hs7)
    | (with_reducible refine wpList_load_row rfl 24 _ rfl D rfl 24 _ (0, 0) _ D7.out Try.underlying24 rfl (by kernel_rfl) ?_)
  have HQ := openB z1_7.out z2_7.out (by omega) (by simp)
  rw [E4.out] at HQ
  refine (HQ).mono ?_
  rintro e w8 ⟨o1, o2, Al, cAl, rfl, ho1, ho2, hcAl, hlAl, hb8⟩
  have HE8 := Lib.hid (HE7.out.trans' hb8)
  have D8 := Lib.hid (D7.out.ext hb8)
  have z1_8 := Lib.hid (z1_7.out.ext hb8)
  have z2_8 := Lib.hid (z2_7.out.ext hb8)
  have o1_8 := Lib.hid (ho1)
  have o2_8 := Lib.hid (ho2)
  have LSAl8 := Lib.hid (hlAl)
  clear HE7 D7 z1_7 z2_7
  have co1 := ho1.cell1
  have co2 := ho2.cell1
  clear HQ ho1 ho2 hb8 hlAl hcAl
  go_wp2_with first
    | (refine wpList_store_named rfl 24 _ _ rfl w8.heap.size _ rfl rfl 24 _ (heap_alloc_new _ _) (by kernel_rfl) rfl (by simp [co1, co2]) w8 (Ext.a1 _ _) (Nat.le_refl _) ?_; intro w9 hb9 hblk9 hs9 ho9; have X9 := Lib.hid (show Rec w9 _ 24 #[o1, o2] from hblk9); have HZ9 := Lib.hid (show w9.heap.size = w8.heap.size + 1 by rw [hs9]; simp); have HE9 := Lib.hid (HE8.out.trans' hb9); have o1_9 := Lib.hid (o1_8.out.ext hb9); have o2_9 := Lib.hid (o2_8.out.ext hb9); have LSAl9 := Lib.hid (LSAl8.out.ext hb9); clear HE8 o1_8 o2_8 LSAl8; clear hb9 hblk9 hs9 ho9)
    | (with_reducible refine wpList_load_row rfl 24 _ rfl w8.heap.size rfl 24 _ (0, 0) _ X9.out Try.underlying24 rfl (by kernel_rfl) ?_)
  have HQ := snapB (tear := 0) o1_9.out o2_9.out (by omega) (by simp) (by omega) (by omega)
  rw [E5.out] at HQ
  refine (HQ).mono ?_
  rintro e w10 ⟨s1, s2, rfl, hs1, hs2, hb10⟩
  have HE10 := Lib.hid (HE9.out.trans' hb10)
  have o1_10 := Lib.hid (o1_9.out.ext hb10)
  have o2_10 := Lib.hid (o2_9.out.ext hb10)
  have LSAl10 := Lib.hid (LSAl9.out.ext hb10)
  have X10 := Lib.hid (X9.out.ext hb10)
  have s1_10 := Lib.hid (hs1)
  have s2_10 := Lib.hid (hs2)
  clear HE9 o1_9 o2_9 LSAl9 X9
  have cs1 := hs1.cell1
  have cs2 := hs2.cell1
  clear HQ hs1 hs2 hb10
  go_wp2_with first
    | (refine wpList_store_named rfl 24 _ _ rfl w10.heap.size _ rfl rfl 24 _ (heap_alloc_new _ _) (by kernel_rfl) rfl (by simp [cs1, cs2]) w10 (Ext.a1 _ _) (Nat.le_refl _) ?_; intro w11 hb11 hblk11 hs11 ho11; have Y11 := Lib.hid (show Rec w11 _ 24 #[s1, s2] from hblk11); have HZ11 := Lib.hid (show w11.heap.size = w10.heap.size + 1 by rw [hs11]; simp); have HE11 := Lib.hid (HE10.out.trans' hb11); have LSAl11 := Lib.hid (LSAl10.out.ext hb11); have s1_11 := Lib.hid (s1_10.out.ext hb11); have s2_11 := Lib.hid (s2_10.out.ext hb11); clear HE10 LSAl10 s1_10 s2_10; clear hb11 hblk11 hs11 ho11)
    | (with_reducible refine wpList_load_row rfl 24 _ rfl w10.heap.size rfl 24 _ (0, 0) _ Y11.out Try.underlying24 rfl (by kernel_rfl) ?_)
  have HQ := snapB (tear := 5) s1_11.out s2_11.out (by omega) (by omega) (by omega) (by omega)
  rw [E6.out] at HQ
  refine (HQ).mono ?_
  rintro e w12 ⟨r1, r2, rfl, hr1, hr2, hb12⟩
  have HE12 := Lib.hid (HE11.out.trans' hb12)
  have LSAl12 := Lib.hid (LSAl11.out.ext hb12)
  have s1_12 := Lib.hid (s1_11.out.ext hb12)
  have s2_12 := Lib.hid (s2_11.out.ext hb12)
  have Y12 := Lib.hid (Y11.out.ext hb12)
  have r1_12 := Lib.hid (hr1)
  have r2_12 := Lib.hid (hr2)
  clear HE11 LSAl11 s1_11 s2_11 Y11
  have cr1 := hr1.cell1
  have cr2 := hr2.cell1
  clear HQ hr1 hr2 hb12
  go_wp2_with first
    | (refine wpList_store_named rfl 24 _ _ rfl w12.heap.size _ rfl rfl 24 _ (heap_alloc_new _ _) (by kernel_rfl) rfl (by simp [cr1, cr2]) w12 (Ext.a1 _ _) (Nat.le_refl _) ?_; intro w13 hb13 hblk13 hs13 ho13; have V13 := Lib.hid (show Rec w13 _ 24 #[r1, r2] from hblk13); have HZ13 := Lib.hid (show w13.heap.size = w12.heap.size + 1 by rw [hs13]; simp); have HE13 := Lib.hid (HE12.out.trans' hb13); have LSAl13 := Lib.hid (LSAl12.out.ext hb13); have s1_13 := Lib.hid (s1_12.out.ext hb13); have s2_13 := Lib.hid (s2_12.out.ext hb13); have Y13 := Lib.hid (Y12.out.ext hb13); clear HE12 LSAl12 s1_12 s2_12 Y12; clear hb13 hblk13 hs13 ho13)
    | (with_reducible refine wpList_load_row rfl 24 _ rfl w10.heap.size rfl 24 _ (0, 0) _ Y13.out Try.underlying24 rfl (by kernel_rfl) ?_)
  have HQ := openB s1_13.out s2_13.out (by omega) (by omega)
  rw [E7.out] at HQ
  refine (HQ).mono ?_
  rintro e w14 ⟨m1, m2, Am, cAm, rfl, hm1, hm2, hcAm, hlAm, hb14⟩
  have HE14 := Lib.hid (HE13.out.trans' hb14)
  have LSAl14 := Lib.hid (LSAl13.out.ext hb14)
  have s1_14 := Lib.hid (s1_13.out.ext hb14)
  have s2_14 := Lib.hid (s2_13.out.ext hb14)
  have Y14 := Lib.hid (Y13.out.ext hb14)
  have m1_14 := Lib.hid (hm1)
  have m2_14 := Lib.hid (hm2)
  have LSAm14 := Lib.hid (hlAm)
  clear HE13 LSAl13 s1_13 s2_13 Y13
  have cm1 := hm1.cell1
  have cm2 := hm2.cell1
  clear HQ hm1 hm2 hb14 hlAm hcAm
  go_wp2_with (refine wpList_store_named rfl 24 _ _ rfl w14.heap.size _ rfl rfl 24 _ (heap_alloc_new _ _) (by kernel_rfl) rfl (by simp [cm1, cm2]) w14 (Ext.a1 _ _) (Nat.le_refl _) ?_; intro w15 hb15 hblk15 hs15 ho15; have ZZ15 := Lib.hid (show Rec w15 _ 24 #[m1, m2] from hblk15); have HZ15 := Lib.hid (show w15.heap.size = w14.heap.size + 1 by rw [hs15]; simp); have HE15 := Lib.hid (HE14.out.trans' hb15); have LSAl15 := Lib.hid (LSAl14.out.ext hb15); have m1_15 := Lib.hid (m1_14.out.ext hb15); have m2_15 := Lib.hid (m2_14.out.ext hb15); have LSAm15 := Lib.hid (LSAm14.out.ext hb15); clear HE14 LSAl14 m1_14 m2_14 LSAm14; clear hb15 hblk15 hs15 ho15)
  have HQ := openB (Bs.nil w15) (Bs.nil w15) (by simp) (by simp)
  rw [E8.out] at HQ
  refine (HQ).mono ?_
  rintro e w16 ⟨k1, k2, Ak, cAk, rfl, hk1, hk2, hcAk, hlAk, hb16⟩
  have HE16 := Lib.hid (HE15.out.trans' hb16)
  have LSAl16 := Lib.hid (LSAl15.out.ext hb16)
  have m1_16 := Lib.hid (m1_15.out.ext hb16)
  have m2_16 := Lib.hid (m2_15.out.ext hb16)
  have LSAm16 := Lib.hid (LSAm15.out.ext hb16)
  have ZZ16 := Lib.hid (ZZ15.out.ext hb16)
  have k1_16 := Lib.hid (hk1)
  have k2_16 := Lib.hid (hk2)
  have LSAk16 := Lib.hid (hlAk)
  clear HE15 LSAl15 m1_15 m2_15 LSAm15 ZZ15
  have ck1 := hk1.cell1
  have ck2 := hk2.cell1
  clear HQ hk1 hk2 hb16 hlAk hcAk
  go_wp2_with (refine wpList_store_named rfl 24 _ _ rfl w16.heap.size _ rfl rfl 24 _ (heap_alloc_new _ _) (by kernel_rfl) rfl (by simp [ck1, ck2]) w16 (Ext.a1 _ _) (Nat.le_refl _) ?_; intro w17 hb17 hblk17 hs17 ho17; have VV17 := Lib.hid (show Rec w17 _ 24 #[k1, k2] from hblk17); have HZ17 := Lib.hid (show w17.heap.size = w16.heap.size + 1 by rw [hs17]; simp); have HE17 := Lib.hid (HE16.out.trans' hb17); have LSAl17 := Lib.hid (LSAl16.out.ext hb17); have m1_17 := Lib.hid (m1_16.out.ext hb17); have m2_17 := Lib.hid (m2_16.out.ext hb17); have LSAm17 := Lib.hid (LSAm16.out.ext hb17); have ZZ17 := Lib.hid (ZZ16.out.ext hb17); obtain ⟨al, ul0, hal, hu0, bu0⟩ := LSAl17.out.elem (k := 0) (x := [97]) rfl; obtain ⟨al', ul1, hal', hu1, bu1⟩ := LSAl17.out.elem (k := 1) (x := [99]) rfl; obtain ⟨am, um1, ham, hv1, bv1⟩ := LSAm17.out.elem (k := 1) (x := [99]) rfl; subst hal; rw [show al.add 0 = al by unfold Addr.add; simp] at hu0; injection hal' with hal'; subst hal'; rw [show al.add 1 = ⟨al.block, al.off + 1, none⟩ by unfold Addr.add; simp] at hu1; rw [show am.add 1 = ⟨am.block, am.off + 1, none⟩ by unfold Addr.add; simp] at hv1; subst ham; obtain ⟨A0, k0, rfl, _, r0⟩ := bu0; obtain ⟨A1, k1, rfl, _, r1⟩ := bu1; obtain ⟨A2, k2, rfl, _, r2⟩ := bv1; have t0 := text_at (n := 1) (c := k0) (l := [97]) r0 rfl; have t1 := text_at (n := 1) (c := k1) (l := [99]) r1 rfl; have t2 := text_at (n := 1) (c := k2) (l := [99]) r2 rfl; unfold Str at t0 t1 t2; have hz := ZZ17.out.cell (i := 1) rfl; obtain ⟨Am2, km2, hm2, _, _⟩ := m2_17.out; subst hm2; rw [L4.out] at hz; clear HE16 LSAl16 m1_16 m2_16 LSAm16 ZZ16; clear hb17 hblk17 hs17 ho17)
  go_ret
  exact ⟨rfl, HE17.out⟩

end Go.Proofs.Ytjcngipaeoegcaa

namespace Go.Proofs.Ytjcngipaeoegcaa
open Go.RowKit Go.ChangeShapes Go.WideShapes Go.ChangeAt

section
variable {H : Type} {enc : TypeId × Value → H} {w : World} {base : Nat} {held : Bool}
theorem bs_in {fuel : Nat} {c : Value} {x : DataW H × List MemPlace} (h : DataW.trod enc Try.prog w base (fun _ => true) held fuel 22 [c] = some x) : ∃ l : List UInt8, Bs w c l ∧ l.length ≤ maxLen := by
  rcases open_ints Try.underlying22 Try.underlying5 (by kernel_rfl) h with ⟨hcs, _⟩ | ⟨a, len, cap, zs, hcs, _, hl, hm, hz, _, hcell, hwz⟩
  · injection hcs with hcs _
    subst hcs
    exact ⟨[], Bs.nil _, Nat.zero_le _⟩
  · injection hcs with hcs _
    subst hcs
    obtain ⟨l, hll, hlc, hcm, hrow⟩ := bytes_of_ints (w := w) (a := some a) (len := len) (cap := cap) (zs := zs) (.inr ⟨a, rfl, hl, hm, by simpa using hz, hcell, hwz⟩)
    exact ⟨l, ⟨_, _, by rw [hll], by omega, hrow⟩, by omega⟩
theorem disk_in {r : Reach} {b0 : Nat} {v : Value} {d : DataW H} {p : List MemPlace} (hv : Value.okWide Try.prog w r b0 24 v) (h : DataW.Trod enc Try.prog w base (fun _ => true) held 24 v d p) :
    ∃ v1 v2 a b, v = .agg #[v1, v2] ∧ Bs w v1 a ∧ Bs w v2 b := by
  obtain ⟨c0, c1, y0, y1, n, rfl, _, _, e0, e1⟩ := Go.Joins.open_agg2 Try.underlying24 (by kernel_rfl) (by kernel_rfl) hv h
  obtain ⟨a, h1, _⟩ := bs_in e0
  obtain ⟨b, h2, _⟩ := bs_in e1
  exact ⟨_, _, a, b, rfl, h1, h2⟩

/-- Steps that came in: whether it lays all anew, its record, its tear. -/
def InStep (w : World) (ad : Addr) (k : Nat) (s : Bool × List UInt8 × Int) : Prop :=
  ∃ u, w.cell? (ad.add (k * 3)) = some (.bool s.1) ∧ w.cell? (ad.add (k * 3 + 1)) = some u ∧ w.cell? (ad.add (k * 3 + 2)) = some (.int .i64 s.2.2) ∧ Bs w u s.2.1
def InSteps (w : World) (A : Option Addr) (ss : List (Bool × List UInt8 × Int)) : Prop :=
  ∀ k s, ss[k]? = some s → ∃ ad, A = some ad ∧ InStep w ad k s
theorem InStep.ext {w w' : World} {ad : Addr} {k : Nat} {s : Bool × List UInt8 × Int} (h : InStep w ad k s) (he : Ext w w') : InStep w' ad k s := by
  obtain ⟨u, h1, h2, h3, h4⟩ := h
  exact ⟨u, he.cellAt h1, he.cellAt h2, he.cellAt h3, h4.ext he⟩
theorem InSteps.ext {w w' : World} {A : Option Addr} {ss : List (Bool × List UInt8 × Int)} (h : InSteps w A ss) (he : Ext w w') : InSteps w' A ss := fun k s hs => by
  obtain ⟨ad, e, h1⟩ := h k s hs
  exact ⟨ad, e, h1.ext he⟩
theorem steps_in {fuel : Nat} {c : Value} {x : DataW H × List MemPlace} (h : DataW.trod enc Try.prog w base (fun _ => true) held fuel 38 [c] = some x) :
    ∃ A cap ss, c = .slice A ss.length cap ∧ ss.length ≤ cap ∧ cap ≤ maxLen ∧ InSteps w A ss ∧ ∀ s ∈ ss, (Lit.int .i64 s.2.2).wf = true := by
  rcases Go.Deep.open_slice Try.underlying38 h with ⟨hcs, _⟩ | ⟨a, len, cap, m, n, D, Pl, hcs, hb, hl, hm, hmm, rfl, hx⟩
  · injection hcs with hcs _
    subst hcs
    exact ⟨none, 0, [], rfl, Nat.le_refl _, Nat.zero_le _, fun k s hs => by simp at hs, fun s hs => by cases hs⟩
  · injection hcs with hcs _
    subst hcs
    have hce : Try.prog.cellsOf 41 = 3 := by kernel_rfl
    have each : ∀ i, i < m → ∃ s : Bool × List UInt8 × Int, InStep w a i s ∧ (Lit.int .i64 s.2.2).wf = true := by
      intro i hi
      obtain ⟨cs', h1, h2⟩ := hx i hi
      rw [hce] at h1
      obtain ⟨_, hlen, hcell⟩ := World.cells?_some h1
      obtain ⟨xs, k, hk, hxy, _, hxl, hf⟩ := DataW.trod_struct Try.underlying41 h2
      match xs, hxl, cs', hlen with
      | [y0, y1, y2], _, [v0, v1, v2], _ =>
        have g0 := hf 0 _ rfl
        have g1 := hf 1 _ rfl
        have g2 := hf 2 _ rfl
        have k0 : Try.prog.cellsOf 4 = 1 := by kernel_rfl
        have k1 : Try.prog.cellsOf 22 = 1 := by kernel_rfl
        have k2 : Try.prog.cellsOf 3 = 1 := by kernel_rfl
        simp [k0, k1, k2] at g0 g1 g2
        have e0 := hcell 0 (by omega)
        have e1 := hcell 1 (by omega)
        have e2 := hcell 2 (by omega)
        rw [add_add] at e0 e1 e2
        obtain ⟨b, hb0, _⟩ := DataW.trod_bool Try.underlying4 g0
        obtain ⟨l, hl1, _⟩ := bs_in g1
        obtain ⟨t, ht2, _, hw2⟩ := DataW.trod_int Try.underlying3 g2
        injection hb0 with hb0 _
        injection ht2 with ht2 _
        subst hb0
        subst ht2
        exact ⟨(b, l, t), ⟨v1, by simpa using e0, by simpa using e1, by simpa using e2, hl1⟩, hw2⟩
    obtain ⟨f, hf⟩ := Go.Deep.choose_lt each
    have hmc : m = cap := by rw [hmm]; simp
    refine ⟨some a, cap, (List.range len).map f, by simp, by simpa using hl, hm, fun k s hs => ?_, fun s hs => ?_⟩
    · rw [List.getElem?_map] at hs
      rcases Nat.lt_or_ge k len with hj | hj
      · rw [List.getElem?_range hj] at hs
        simp at hs
        subst hs
        exact ⟨a, rfl, (hf k (by omega)).1⟩
      · rw [List.getElem?_eq_none (by simpa using hj)] at hs
        cases hs
    · obtain ⟨k, hk, rfl⟩ := List.mem_map.1 hs
      have := List.mem_range.1 hk
      exact (hf k (by omega)).2
end
end Go.Proofs.Ytjcngipaeoegcaa
