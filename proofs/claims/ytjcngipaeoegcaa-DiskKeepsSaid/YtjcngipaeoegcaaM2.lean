/-
  Joined: D13, D14, D15, D16.
-/
import Derived.Test.YtjcngipaeoegcaaM1
import Derived.Test.YtjcngipaeoegcaaD5
import Derived.Test.YtjcngipaeoegcaaD3
namespace Go.Proofs.Ytjcngipaeoegcaa
open Go.RowKit

def RetNew (w : World) (e : Ending) (w' : World) : Prop := ∃ v1, e = .returned (.agg #[v1, .slice none 0 0]) ∧ Bs w' v1 Disk.new ∧ Ext w w'

theorem Ls.none (w : World) : Ls w none [] := ⟨[], rfl, Row.nil _ _, fun j u x h => by simp at h⟩
theorem head1_len : (Disk.head 1 []).length ≤ 100 := by
  rw [Disk.head_length]
  have h1 := Pack.need_le8 1 (by omega)
  have h2 := Pack.need_le8 (([] : List (List UInt8)).length) (by simp)
  simp [Disk.texts] at *
  omega

set_option maxHeartbeats 4000000 in
set_option maxRecDepth 100000 in
theorem refNew_any (w : World) : Calls Try.prog 18 #[] w (RetNew w) := by
  have HQ : ∀ w, Calls Try.prog 30 #[.int .i64 1, .slice none 0 0] w (RetOwn w (Disk.head 1 [])) := fun w => refHead_any none 0 1 [] w (by omega) (by simp [Disk.texts]) (Ls.none w)
  have HQ := Lib.hid HQ
  have HL := Lib.hid head1_len
  have HN := Lib.hid (show Disk.new = Frame.sealed (Pack.text [] (Disk.head 1 [])) from rfl)
  obtain ⟨hd, Hhd⟩ : ∃ hd, Hid (Disk.head 1 [] = hd) := ⟨_, Lib.hid rfl⟩
  rw [Hhd.out] at HQ HL HN
  obtain ⟨nw, Hnw⟩ : ∃ nw, Hid (Disk.new = nw) := ⟨_, Lib.hid rfl⟩
  unfold RetNew
  rw [Hnw.out]
  rw [Hnw.out] at HN
  go_enter Try.func18, Try.ntmps18
  go_wp2_with fail
  obtain ⟨wx, hwx⟩ : ∃ wx, w.alloc (.cells #[.slice none 0 0, .slice none 0 0] 24) = wx := ⟨_, rfl⟩
  obtain ⟨B, hB⟩ : ∃ B, w.heap.size = B := ⟨_, rfl⟩
  have HE := Lib.hid (show Ext w wx by rw [← hwx]; exact Ext.a1 _ _)
  have R1 := Lib.hid (show Rec wx B 24 #[.slice none 0 0, .slice none 0 0] by rw [← hwx, ← hB]; exact Rec.new w _ _)
  rw [hwx]
  try rw [hB]
  clear hwx
  refine (HQ.out wx).mono ?_
  rintro e w1 ⟨v, rfl, hown, hb1⟩
  obtain ⟨A1, c1, rfl, hc1⟩ := hown.shape
  have HO1 := Lib.hid hown.row
  have HE1 := Lib.hid (HE.out.trans' hb1)
  have R1a := Lib.hid (R1.out.ext hb1)
  clear hown hb1
  go_wp2_with fail
  refine (refOne_any A1 c1 hd w1 (by have := HL.out; omega) HO1.out).mono ?_
  rintro e w2 ⟨v, rfl, hown, hb2⟩
  rw [← HN.out] at hown
  obtain ⟨A2, c2, rfl, hc2⟩ := hown.shape
  have HO2 := Lib.hid hown.bs
  have HE2 := Lib.hid (HE1.out.trans' hb2)
  have R1b := Lib.hid (show w2.heap[B]? = some (.cells _ 24 (0, 0)) from R1a.out.ext hb2)
  clear hown hb2
  go_wp2_with (refine wpList_store_rec rfl 24 _ _ rfl B _ rfl rfl 24 _ R1b.out (by kernel_rfl) rfl (by simp [Value.oneCell']) w HE2.out (by omega) ?_; intro w4 hb4 hblk4 hg4 hs4; have HB4 := Lib.hid hb4; have HK4 := Lib.hid hblk4; have HG4 := Lib.hid hg4; clear hb4 hblk4 hg4 hs4)
  refine bodyPost_ret (v := .agg #[.slice A2 nw.length c2, .slice none 0 0]) ?_ rfl ?_
  · exact results_cell_row rfl _ _ B 24 _ (0, 0) _ rfl HK4.out Try.underlying24 rfl (by kernel_rfl)
  have hn : ∀ u ∈ (#[.slice none 0 0, .slice none 0 0] : Array Value).toList, ∀ x, u ≠ B8 x := noBy2 (by intro y e; cases e) (by intro y e; cases e)
  exact ⟨_, rfl, HO2.out.rec R1b.out hn HG4.out, HB4.out⟩

set_option maxHeartbeats 4000000 in
set_option maxRecDepth 100000 in
theorem new_any (w : World) : Calls Try.prog 17 #[] w (RetNew w) := by
  have HQ : ∀ w, Calls Try.prog 29 #[.int .i64 1, .slice none 0 0] w (RetOwn w (Disk.head 1 [])) := fun w => head_any none 0 1 [] w (by omega) (by simp [Disk.texts]) (Ls.none w)
  have HQ := Lib.hid HQ
  have HL := Lib.hid head1_len
  have HN := Lib.hid (show Frame.put [] (Disk.head 1 []) = some Disk.new by unfold Frame.put; rw [if_neg (by have := HL.out; omega)]; rfl)
  obtain ⟨hd, Hhd⟩ : ∃ hd, Hid (Disk.head 1 [] = hd) := ⟨_, Lib.hid rfl⟩
  rw [Hhd.out] at HQ HL HN
  obtain ⟨nw, Hnw⟩ : ∃ nw, Hid (Disk.new = nw) := ⟨_, Lib.hid rfl⟩
  unfold RetNew
  rw [Hnw.out]
  rw [Hnw.out] at HN
  go_enter Try.func17, Try.ntmps17
  go_wp2_with fail
  obtain ⟨wx, hwx⟩ : ∃ wx, w.alloc (.cells #[.slice none 0 0, .slice none 0 0] 24) = wx := ⟨_, rfl⟩
  obtain ⟨B, hB⟩ : ∃ B, w.heap.size = B := ⟨_, rfl⟩
  have HE := Lib.hid (show Ext w wx by rw [← hwx]; exact Ext.a1 _ _)
  have R1 := Lib.hid (show Rec wx B 24 #[.slice none 0 0, .slice none 0 0] by rw [← hwx, ← hB]; exact Rec.new w _ _)
  rw [hwx]
  try rw [hB]
  clear hwx
  refine (HQ.out wx).mono ?_
  rintro e w1 ⟨v, rfl, hown, hb1⟩
  obtain ⟨A1, c1, rfl, hc1⟩ := hown.shape
  have HO1 := Lib.hid hown.row
  have HE1 := Lib.hid (HE.out.trans' hb1)
  have R1a := Lib.hid (R1.out.ext hb1)
  clear hown hb1
  go_wp2_with fail
  have HP := fput_any none A1 0 c1 [] hd w1 (by simp) (by have := HL.out; omega) (Row.nil _ _) HO1.out
  rw [HN.out] at HP
  refine HP.mono ?_
  rintro e w2 ⟨hb2, v, rfl, hown⟩
  obtain ⟨A2, c2, rfl, hc2⟩ := hown.shape
  have HO2 := Lib.hid hown.bs
  have HE2 := Lib.hid (HE1.out.trans' hb2)
  have R1b := Lib.hid (show w2.heap[B]? = some (.cells _ 24 (0, 0)) from R1a.out.ext hb2)
  clear hown hb2 HP
  go_wp2_with (refine wpList_store_rec rfl 24 _ _ rfl B _ rfl rfl 24 _ R1b.out (by kernel_rfl) rfl (by simp [Value.oneCell']) w HE2.out (by omega) ?_; intro w4 hb4 hblk4 hg4 hs4; have HB4 := Lib.hid hb4; have HK4 := Lib.hid hblk4; have HG4 := Lib.hid hg4; clear hb4 hblk4 hg4 hs4)
  refine bodyPost_ret (v := .agg #[.slice A2 nw.length c2, .slice none 0 0]) ?_ rfl ?_
  · exact results_cell_row rfl _ _ B 24 _ (0, 0) _ rfl HK4.out Try.underlying24 rfl (by kernel_rfl)
  have hn : ∀ u ∈ (#[.slice none 0 0, .slice none 0 0] : Array Value).toList, ∀ x, u ≠ B8 x := noBy2 (by intro y e; cases e) (by intro y e; cases e)
  exact ⟨_, rfl, HO2.out.rec R1b.out hn HG4.out, HB4.out⟩

end Go.Proofs.Ytjcngipaeoegcaa

namespace Go.Proofs.Ytjcngipaeoegcaa
open Go.RowKit

theorem frame_len_le (p : List UInt8) (h : p.length ≤ 100000) : (Frame.frame p).length ≤ 100100 := by
  rw [Frame.frame_length]
  have := Pack.need_le8 p.length (by omega)
  omega

set_option maxHeartbeats 4000000 in
set_option maxRecDepth 100000 in
theorem refAppend_any (A A' : Option Addr) (c c' : Nat) (a b : List UInt8) (A2 : Option Addr) (c2 : Nat) (p : List UInt8) (tear : Int) (w : World) (ht1 : -9223372036854775808 ≤ tear) (ht2 : tear ≤ 9223372036854775807) (hp : p.length ≤ 1000000) (h3 : Row w A2 (p.map B8)) (hca : a.length ≤ c) (hcb : b.length ≤ c') (ha : a.length ≤ 10000000) (hb : b.length ≤ 10000000) (h1 : Row w A (a.map B8)) (h2 : Row w A' (b.map B8)) :
    Calls Try.prog 12 #[.agg #[.slice A a.length c, .slice A' b.length c'], .slice A2 p.length c2, .int .i64 tear] w (RetDisk w (Disk.append a b p tear)) := by
  have H1 := Lib.hid h1
  have H2 := Lib.hid h2
  have HQ := fun w H1 H2 => of_any A A' c c' a b w hca hcb (by omega) (by omega) H1 H2
  have HR : Hid (Disk.append a b p tear = Disk.append a b p tear) := Lib.hid rfl
  have H3 := Lib.hid h3
  clear h1 h2 h3
  obtain ⟨B, hB⟩ : ∃ B, w.heap.size = B := ⟨_, rfl⟩
  obtain ⟨o, Ho⟩ : ∃ o, Hid (Disk.which a b = o) := ⟨_, Lib.hid rfl⟩
  rw [Ho.out] at HQ
  have HQ := Lib.hid HQ
  go_enter Try.func12, Try.ntmps12
  go_wp2_with fail
  obtain ⟨wx, hwx⟩ : ∃ wx, (w.alloc (.cells #[.slice A a.length c, .slice A' b.length c'] 24)).alloc (.cells #[.slice none 0 0, .slice none 0 0] 24) = wx := ⟨_, rfl⟩
  have HE := Lib.hid (show Ext w wx by rw [← hwx]; exact (Ext.a1 _ _).alloc' _)
  have R1 := Lib.hid (show Rec wx B 24 #[.slice A a.length c, .slice A' b.length c'] by rw [← hwx, ← hB]; exact (Rec.new w _ _).ext (Ext.a1 _ _))
  have R2 := Lib.hid (show Rec wx (B + 1) 24 #[.slice none 0 0, .slice none 0 0] by rw [← hwx, ← hB]; have := Rec.new (w.alloc (.cells #[.slice A a.length c, .slice A' b.length c'] 24)) 24 #[.slice none 0 0, .slice none 0 0]; rw [World.size_alloc] at this; exact this)
  try rw [hwx]
  have hn : ∀ u ∈ (#[.slice none 0 0, .slice none 0 0] : Array Value).toList, ∀ x, u ≠ B8 x := noBy2 (by intro y e; cases e) (by intro y e; cases e)
  have Hn := Lib.hid hn
  clear hn HR
  refine (HQ.out wx (H1.out.ext HE.out) (H2.out.ext HE.out)).mono ?_
  cases o with
  | none =>
    rintro e w1 ⟨x0, x1, x2, ⟨rfl, rfl, rfl⟩, rfl, hb1⟩
    rw [show Disk.second none = false from rfl]
    have HE1 := Lib.hid (HE.out.trans' hb1)
    have R1a := Lib.hid (R1.out.ext hb1)
    have R2a := Lib.hid (R2.out.ext hb1)
    clear hb1
    go_wp2_with first
      | (refine wpList_store_named rfl 57 _ _ rfl w1.heap.size _ rfl rfl 57 _ (heap_alloc_new _ _) (by kernel_rfl) rfl (by simp [Value.oneCell']) w1 (Ext.a1 _ _) (Nat.le_refl _) ?_; intro w2 hb2 hblk2 hs2 ho2; have RC := Lib.hid (show Rec w2 _ 57 _ from hblk2); have R1b := Lib.hid (show w2.heap[B]? = some (.cells _ 24 (0, 0)) from R1a.out.ext hb2); have R2b := Lib.hid (show w2.heap[B + 1]? = some (.cells _ 24 (0, 0)) from R2a.out.ext hb2); have hcg := RC.out.cell (i := 0) rfl; have HE2 := Lib.hid (HE1.out.trans' hb2); clear hb2 hblk2 hs2 ho2)
      | (with_reducible refine wpList_load_row rfl 24 _ rfl B rfl 24 _ (0, 0) _ R1b.out Try.underlying24 rfl (by kernel_rfl) ?_)
      | (refine wpList_store_rec rfl 24 _ _ rfl (B + 1) _ rfl rfl 24 _ R2b.out (by kernel_rfl) rfl (by simp [Value.oneCell']) w HE2.out (by omega) ?_; intro w4 hb4 hblk4 hg4 hs4; have HB4 := Lib.hid hb4; have HK4 := Lib.hid hblk4; have HG4 := Lib.hid hg4; clear hb4 hblk4 hg4 hs4)
    refine bodyPost_ret (v := .tuple #[.agg #[.slice A a.length c, .slice A' b.length c'], .int .i64 60]) ?_ rfl ?_
    · exact results2 (fn := Try.f12) (p := 6) (q := 7) rfl _ (B + 1) (by rfl) HK4.out rfl
    rw [show Disk.append a b p tear = ((a, b), 60) by unfold Disk.append; rw [Ho.out]]
    exact ⟨_, _, rfl, Bs.rec ⟨A, c, rfl, hca, H1.out.ext HE2.out⟩ R2b.out Hn.out HG4.out, Bs.rec ⟨A', c', rfl, hcb, H2.out.ext HE2.out⟩ R2b.out Hn.out HG4.out, HB4.out⟩
  | some q =>
    obtain ⟨s, f⟩ := q
    rintro e w1 ⟨x0, x1, x2, ⟨rfl, ⟨Ar, cr, rfl, hcr, hls⟩, rfl⟩, rfl, hb1⟩
    have HE1 := Lib.hid (HE.out.trans' hb1)
    have R1a := Lib.hid (R1.out.ext hb1)
    have R2a := Lib.hid (R2.out.ext hb1)
    have hgen := (Disk.file_gen (Disk.which_file Ho.out)).1
    have hg0 : ((f.gen : Int) == 0) = false := by simp; omega
    clear hls hb1
    by_cases hlong : 100000 < p.length
    · have hd1 : decide ((100000 : Int) < (p.length : Int)) = true := by simp; omega
      go_wp2_with first
        | (refine wpList_store_named rfl 57 _ _ rfl w1.heap.size _ rfl rfl 57 _ (heap_alloc_new _ _) (by kernel_rfl) rfl (by simp [Value.oneCell']) w1 (Ext.a1 _ _) (Nat.le_refl _) ?_; intro w2 hb2 hblk2 hs2 ho2; have RC := Lib.hid (show Rec w2 _ 57 _ from hblk2); have R1b := Lib.hid (show w2.heap[B]? = some (.cells _ 24 (0, 0)) from R1a.out.ext hb2); have R2b := Lib.hid (show w2.heap[B + 1]? = some (.cells _ 24 (0, 0)) from R2a.out.ext hb2); have hcg := RC.out.cell (i := 0) rfl; have HE2 := Lib.hid (HE1.out.trans' hb2); clear hb2 hblk2 hs2 ho2)
        | (with_reducible refine wpList_load_row rfl 24 _ rfl B rfl 24 _ (0, 0) _ R1b.out Try.underlying24 rfl (by kernel_rfl) ?_)
        | (refine wpList_store_rec rfl 24 _ _ rfl (B + 1) _ rfl rfl 24 _ R2b.out (by kernel_rfl) rfl (by simp [Value.oneCell']) w HE2.out (by omega) ?_; intro w4 hb4 hblk4 hg4 hs4; have HB4 := Lib.hid hb4; have HK4 := Lib.hid hblk4; have HG4 := Lib.hid hg4; clear hb4 hblk4 hg4 hs4)
      refine bodyPost_ret (v := .tuple #[.agg #[.slice A a.length c, .slice A' b.length c'], .int .i64 60]) ?_ rfl ?_
      · exact results2 (fn := Try.f12) (p := 6) (q := 7) rfl _ (B + 1) (by rfl) HK4.out rfl
      rw [show Disk.append a b p tear = ((a, b), 60) by unfold Disk.append; rw [Ho.out]; simp only; rw [if_pos (by omega)]]
      exact ⟨_, _, rfl, Bs.rec ⟨A, c, rfl, hca, H1.out.ext HE2.out⟩ R2b.out Hn.out HG4.out, Bs.rec ⟨A', c', rfl, hcb, H2.out.ext HE2.out⟩ R2b.out Hn.out HG4.out, HB4.out⟩
    · have hd1 : decide ((100000 : Int) < (p.length : Int)) = false := by simp; omega
      obtain ⟨r, Hr⟩ : ∃ r, Hid ((Disk.put s a b (Disk.write f.good (Frame.frame p) tear).1, (Disk.write f.good (Frame.frame p) tear).2) = r) := ⟨_, Lib.hid rfl⟩
      have HA := Lib.hid (show Disk.append a b p tear = r by unfold Disk.append; rw [Ho.out]; simp only; rw [if_neg hlong]; exact Hr.out)
      obtain ⟨fp, Hfp⟩ : ∃ fp, Hid (Frame.frame p = fp) := ⟨_, Lib.hid rfl⟩
      have hfl := frame_len_le p (by omega)
      rw [Hfp.out] at Hr hfl
      clear hlong
      go_wp2_with (refine wpList_store_named rfl 57 _ _ rfl w1.heap.size _ rfl rfl 57 _ (heap_alloc_new _ _) (by kernel_rfl) rfl (by simp [Value.oneCell']) w1 (Ext.a1 _ _) (Nat.le_refl _) ?_; intro w2 hb2 hblk2 hs2 ho2; have RC := Lib.hid (show Rec w2 _ 57 _ from hblk2); have R1b := Lib.hid (show w2.heap[B]? = some (.cells _ 24 (0, 0)) from R1a.out.ext hb2); have R2b := Lib.hid (show w2.heap[B + 1]? = some (.cells _ 24 (0, 0)) from R2a.out.ext hb2); have hcg := RC.out.cell (i := 0) rfl; have HE2 := Lib.hid (HE1.out.trans' hb2); clear hb2 hblk2 hs2 ho2)
      have hBw : B + 2 ≤ w2.heap.size := by have := Rec.lt (show Rec w2 (B + 1) 24 _ from R2b.out); omega
      apply wp_region_gen (B) 7 ((by omega)) (by kernel_rfl) (by kernel_rfl) (by kernel_rfl)
        [Is (.agg #[.slice A a.length c, .slice A' b.length c']), Is (.slice A2 p.length c2), fun w v => ∃ X k, v = .slice X fp.length k ∧ Row w X (fp.map B8), Is (.int .i64 tear), fun w v => ∃ x y, v = .tuple #[.agg #[x, y], .int .i64 r.2] ∧ Bs w x r.1.1 ∧ Bs w y r.1.2, fun w v => ∃ x y, v = .agg #[x, y] ∧ Bs w x r.1.1 ∧ Bs w y r.1.2, Is (.int .i64 r.2), RecSay (B + 1) 24 (fun w vs => ∃ x y, vs = #[x, y] ∧ Bs w x r.1.1 ∧ Bs w y r.1.2), Is (.int .i64 r.2)] (fun i w' => (i ≤ 4 → Ext w2 w') ∧ (i = 7 → Rec w' (B + 1) 24 #[.slice none 0 0, .slice none 0 0]))
      case mono => exact ⟨Is.st _, Is.st _, Say.st_of (fun w w' v he ⟨X, k, h1, h2⟩ => ⟨X, k, h1, h2.ext he⟩), Is.st _, Say.st_of (fun w w' v he ⟨x, y, h1, h2, h3⟩ => ⟨x, y, h1, h2.ext he, h3.ext he⟩), Say.st_of (fun w w' v he ⟨x, y, h1, h2, h3⟩ => ⟨x, y, h1, h2.ext he, h3.ext he⟩), Is.st _, Say.st_of (fun w w' v he ⟨vs, h1, x, y, h2, h3, h4⟩ => ⟨vs, h1.ext he, x, y, h2, h3.ext he, h4.ext he⟩), Is.st _, True.intro⟩
      case monoS => exact fun i w w' he h => ⟨fun e => (h.1 e).trans' he, fun e => (h.2 e).ext he⟩
      case startS => exact fun i => ⟨fun _ => Below.refl _ _, fun _ => R2b.out⟩
      case hF => intro u; simp only [fill, Nat.reduceAdd, List.setIfInBounds_toArray, List.set_cons_succ, List.set_cons_zero]; exact rfl
      case steps =>
        refine StepsG.cons ?_ ?_
        · intro u w1 K hE hS hU hd hK hW
          have hR := Rec.ext (show Rec w2 B 24 _ from R1b.out) (hS.1 (by decide))
          refine if_run rfl ?_
          refine wp_load_row 24 (.tmp 3) rfl B rfl 24 _ (0, 0) _ hR Try.underlying24 rfl (by kernel_rfl) ?_
          exact hK _ _ (Below.refl _ _) rfl
        refine StepsG.cons ?_ ?_
        · intro u w1 K hE hS hU hd hK hW
          go_simp
          exact hK _ _ (Below.refl _ _) rfl
        refine StepsG.cons ?_ ?_
        · intro u w1 K hE hS hU hd hK hW
          have d1 : u 1 = (.slice A2 p.length c2) := hd 1 rfl
          simp only [d1] at hK
          go_simp
          have hC := refOne_any A2 c2 p w1 (by omega) (H3.out.ext (HE2.out.trans' (hS.1 (by decide))))
          refine hC.mono ?_
          rintro e w3 ⟨v, rfl, hown, hb3⟩
          rw [show Frame.sealed (Pack.text [] p) = fp from Hfp.out] at hown
          obtain ⟨X, k, hv, hk⟩ := hown.shape
          subst hv
          exact hK _ _ hb3 ⟨X, k, rfl, hown.row⟩
        refine StepsG.cons ?_ ?_
        · intro u w1 K hE hS hU hd hK hW
          go_simp
          exact hK _ _ (Below.refl _ _) rfl
        refine StepsG.cons ?_ ?_
        · intro u w1 K hE hS hU hd hK hW
          have d0 : u 0 = (.agg #[.slice A a.length c, .slice A' b.length c']) := hd 0 rfl
          obtain ⟨X2, k2, d2, h2_1⟩ : ∃ X2 k2, u 2 = .slice X2 fp.length k2 ∧ Row w1 X2 (fp.map B8) := hd 2 rfl
          have d3 : u 3 = (.int .i64 tear) := hd 3 rfl
          simp only [d0, d2, d3] at hK
          go_simp
          have hX := HE2.out.trans' (hS.1 (by decide))
          have hC := cut_any A A' X2 c c' k2 a b fp tear s f w1 ht1 ht2 hca hcb (by omega) (by omega) (by omega) (H1.out.ext hX) (H2.out.ext hX) h2_1 Ho.out
          rw [Hr.out] at hC
          refine hC.mono ?_
          rintro e w3 ⟨v1, v2, rfl, hv1, hv2, hb3⟩
          exact hK _ _ hb3 ⟨_, _, rfl, hv1, hv2⟩
        refine StepsG.cons ?_ ?_
        · intro u w1 K hE hS hU hd hK hW
          obtain ⟨x4, y4, d4, h4_1, h4_2⟩ : ∃ x4 y4, u 4 = .tuple #[.agg #[x4, y4], .int .i64 r.2] ∧ Bs w1 x4 r.1.1 ∧ Bs w1 y4 r.1.2 := hd 4 rfl
          simp only [d4] at hK
          go_simp
          exact hK _ _ (Below.refl _ _) ⟨_, _, rfl, h4_1, h4_2⟩
        refine StepsG.cons ?_ ?_
        · intro u w1 K hE hS hU hd hK hW
          obtain ⟨x4, y4, d4, h4_1, h4_2⟩ : ∃ x4 y4, u 4 = .tuple #[.agg #[x4, y4], .int .i64 r.2] ∧ Bs w1 x4 r.1.1 ∧ Bs w1 y4 r.1.2 := hd 4 rfl
          simp only [d4] at hK
          go_simp
          exact hK _ _ (Below.refl _ _) rfl
        refine StepsG.cons ?_ ?_
        · intro u w1 K hE hS hU hd hK hW
          obtain ⟨x5, y5, d5, h5_1, h5_2⟩ : ∃ x5 y5, u 5 = .agg #[x5, y5] ∧ Bs w1 x5 r.1.1 ∧ Bs w1 y5 r.1.2 := hd 5 rfl
          have hR := hS.2 rfl
          refine if_run rfl ?_
          refine wp_store_row 24 (.tmp 6) (.tmp 29) rfl (B + 1) _ rfl d5 24 _ hR (by kernel_rfl) rfl (by simp [h5_1.cell1, h5_2.cell1]) ?_
          have hg := grown_setRow w1 (B + 1) #[x5, y5]
          have ht := Turns.ofRec (B := B) hR (by decide) (by omega)
          exact hW undef _ (Below.grown (Below.refl B w1) hg (by have := hE.size; omega) (fun k e => (ht k e).1)) ⟨fun _ _ h => h, fun _ _ h => h, fun hk => absurd hk (by decide), fun _ _ h => h, fun _ _ ⟨x, y, e, h1, h2⟩ => ⟨x, y, e, h1.rec hR Hn.out hg, h2.rec hR Hn.out hg⟩, fun hk => absurd hk (by decide), fun _ _ h => h, fun hk => absurd hk (by decide), fun _ _ h => h, True.intro⟩ (fun k hk h => ⟨fun e => absurd hk (by rcases (by omega : k = 0 ∨ k = 1 ∨ k = 2 ∨ k = 3 ∨ k = 4) with e | e | e | e | e <;> subst e <;> decide), fun e => absurd hk (by subst e; decide)⟩)  ⟨_, hR.setRow _, x5, y5, rfl, h5_1.rec hR Hn.out hg, h5_2.rec hR Hn.out hg⟩
        refine StepsG.cons ?_ ?_
        · intro u w1 K hE hS hU hd hK hW
          have d6 : u 6 = (.int .i64 r.2) := hd 6 rfl
          simp only [d6] at hK
          go_simp
          exact hK _ _ (Below.refl _ _) rfl
        exact StepsG.nil
      case fin =>
        intro u w9 hE9 hP
        
        have d8 : u 8 = (.int .i64 r.2) := hP 8 (by decide) (by decide)
        simp only [d8]
        obtain ⟨vs, hR9, x9, y9, hv9, h91, h92⟩ := hP 7 (by decide) (by decide)
        subst hv9
        have HX9 := Lib.hid hE9
        clear hE9 hP
        go_wp2_with fail
        refine bodyPost_ret (v := .tuple #[.agg #[x9, y9], .int .i64 r.2]) ?_ rfl ?_
        · exact results2 (fn := Try.f12) (p := 6) (q := 7) rfl _ (B + 1) (by rfl) hR9 rfl
        rw [HA.out]
        exact ⟨_, _, rfl, h91, h92, by have h1 := HE2.out; have h2 := HX9.out; rw [← hB] at h2; exact h1.trans h2⟩

end Go.Proofs.Ytjcngipaeoegcaa

namespace Go.Proofs.Ytjcngipaeoegcaa
open Go.RowKit

set_option maxHeartbeats 4000000 in
set_option maxRecDepth 100000 in
theorem refSnap_any (A A' : Option Addr) (c c' : Nat) (a b : List UInt8) (tear : Int) (w : World) (ht1 : -9223372036854775808 ≤ tear) (ht2 : tear ≤ 9223372036854775807) (hca : a.length ≤ c) (hcb : b.length ≤ c') (ha : a.length ≤ 10000000) (hb : b.length ≤ 10000000) (h1 : Row w A (a.map B8)) (h2 : Row w A' (b.map B8)) :
    Calls Try.prog 14 #[.agg #[.slice A a.length c, .slice A' b.length c'], .int .i64 tear] w (RetDisk w (Disk.snap a b tear)) := by
  have H1 := Lib.hid h1
  have H2 := Lib.hid h2
  have HQ := fun w H1 H2 => of_any A A' c c' a b w hca hcb (by omega) (by omega) H1 H2
  have HR : Hid (Disk.snap a b tear = Disk.snap a b tear) := Lib.hid rfl
  clear h1 h2
  obtain ⟨B, hB⟩ : ∃ B, w.heap.size = B := ⟨_, rfl⟩
  obtain ⟨o, Ho⟩ : ∃ o, Hid (Disk.which a b = o) := ⟨_, Lib.hid rfl⟩
  rw [Ho.out] at HQ
  have HQ := Lib.hid HQ
  go_enter Try.func14, Try.ntmps14
  go_wp2_with fail
  obtain ⟨wx, hwx⟩ : ∃ wx, (w.alloc (.cells #[.slice A a.length c, .slice A' b.length c'] 24)).alloc (.cells #[.slice none 0 0, .slice none 0 0] 24) = wx := ⟨_, rfl⟩
  have HE := Lib.hid (show Ext w wx by rw [← hwx]; exact (Ext.a1 _ _).alloc' _)
  have R1 := Lib.hid (show Rec wx B 24 #[.slice A a.length c, .slice A' b.length c'] by rw [← hwx, ← hB]; exact (Rec.new w _ _).ext (Ext.a1 _ _))
  have R2 := Lib.hid (show Rec wx (B + 1) 24 #[.slice none 0 0, .slice none 0 0] by rw [← hwx, ← hB]; have := Rec.new (w.alloc (.cells #[.slice A a.length c, .slice A' b.length c'] 24)) 24 #[.slice none 0 0, .slice none 0 0]; rw [World.size_alloc] at this; exact this)
  try rw [hwx]
  have hn : ∀ u ∈ (#[.slice none 0 0, .slice none 0 0] : Array Value).toList, ∀ x, u ≠ B8 x := noBy2 (by intro y e; cases e) (by intro y e; cases e)
  have Hn := Lib.hid hn
  clear hn HR
  refine (HQ.out wx (H1.out.ext HE.out) (H2.out.ext HE.out)).mono ?_
  cases o with
  | none =>
    rintro e w1 ⟨x0, x1, x2, ⟨rfl, rfl, rfl⟩, rfl, hb1⟩
    rw [show Disk.second none = false from rfl]
    have HE1 := Lib.hid (HE.out.trans' hb1)
    have R1a := Lib.hid (R1.out.ext hb1)
    have R2a := Lib.hid (R2.out.ext hb1)
    clear hb1
    go_wp2_with first
      | (refine wpList_store_named rfl 57 _ _ rfl w1.heap.size _ rfl rfl 57 _ (heap_alloc_new _ _) (by kernel_rfl) rfl (by simp [Value.oneCell']) w1 (Ext.a1 _ _) (Nat.le_refl _) ?_; intro w2 hb2 hblk2 hs2 ho2; have RC := Lib.hid (show Rec w2 _ 57 _ from hblk2); have R1b := Lib.hid (show w2.heap[B]? = some (.cells _ 24 (0, 0)) from R1a.out.ext hb2); have R2b := Lib.hid (show w2.heap[B + 1]? = some (.cells _ 24 (0, 0)) from R2a.out.ext hb2); have hcg := RC.out.cell (i := 0) rfl; have HE2 := Lib.hid (HE1.out.trans' hb2); clear hb2 hblk2 hs2 ho2)
      | (with_reducible refine wpList_load_row rfl 24 _ rfl B rfl 24 _ (0, 0) _ R1b.out Try.underlying24 rfl (by kernel_rfl) ?_)
      | (refine wpList_store_rec rfl 24 _ _ rfl (B + 1) _ rfl rfl 24 _ R2b.out (by kernel_rfl) rfl (by simp [Value.oneCell']) w HE2.out (by omega) ?_; intro w4 hb4 hblk4 hg4 hs4; have HB4 := Lib.hid hb4; have HK4 := Lib.hid hblk4; have HG4 := Lib.hid hg4; clear hb4 hblk4 hg4 hs4)
    refine bodyPost_ret (v := .tuple #[.agg #[.slice A a.length c, .slice A' b.length c'], .int .i64 60]) ?_ rfl ?_
    · exact results2 (fn := Try.f14) (p := 4) (q := 5) rfl _ (B + 1) (by rfl) HK4.out rfl
    rw [show Disk.snap a b tear = ((a, b), 60) by unfold Disk.snap; rw [Ho.out]]
    exact ⟨_, _, rfl, Bs.rec ⟨A, c, rfl, hca, H1.out.ext HE2.out⟩ R2b.out Hn.out HG4.out, Bs.rec ⟨A', c', rfl, hcb, H2.out.ext HE2.out⟩ R2b.out Hn.out HG4.out, HB4.out⟩
  | some q =>
    obtain ⟨s, f⟩ := q
    rintro e w1 ⟨x0, x1, x2, ⟨rfl, ⟨Ar, cr, rfl, hcr, hls⟩, rfl⟩, rfl, hb1⟩
    have HE1 := Lib.hid (HE.out.trans' hb1)
    have R1a := Lib.hid (R1.out.ext hb1)
    have R2a := Lib.hid (R2.out.ext hb1)
    have HLS := Lib.hid hls.ls
    have hgen := Disk.file_gen (Disk.which_file Ho.out)
    have htx := Disk.file_texts (Disk.which_file Ho.out)
    have htx2 : (Disk.texts f.recs).length ≤ 10000000 := by cases s <;> simp at htx <;> omega
    have hg0 : ((f.gen : Int) == 0) = false := by simp; omega
    clear hls hb1 htx
    rw [show Disk.second (some (s, f)) = s from rfl]
    by_cases hmax : f.gen = 1000000
    · have hd0 : ((f.gen : Int) == 1000000) = true := by simp; omega
      clear htx2
      go_wp2_with first
        | (refine wpList_store_named rfl 57 _ _ rfl w1.heap.size _ rfl rfl 57 _ (heap_alloc_new _ _) (by kernel_rfl) rfl (by simp [Value.oneCell']) w1 (Ext.a1 _ _) (Nat.le_refl _) ?_; intro w2 hb2 hblk2 hs2 ho2; have RC := Lib.hid (show Rec w2 _ 57 _ from hblk2); have R1b := Lib.hid (show w2.heap[B]? = some (.cells _ 24 (0, 0)) from R1a.out.ext hb2); have R2b := Lib.hid (show w2.heap[B + 1]? = some (.cells _ 24 (0, 0)) from R2a.out.ext hb2); have hcg := RC.out.cell (i := 0) rfl; have HE2 := Lib.hid (HE1.out.trans' hb2); clear hb2 hblk2 hs2 ho2)
        | (with_reducible refine wpList_load_row rfl 24 _ rfl B rfl 24 _ (0, 0) _ R1b.out Try.underlying24 rfl (by kernel_rfl) ?_)
        | (refine wpList_store_rec rfl 24 _ _ rfl (B + 1) _ rfl rfl 24 _ R2b.out (by kernel_rfl) rfl (by simp [Value.oneCell']) w HE2.out (by omega) ?_; intro w4 hb4 hblk4 hg4 hs4; have HB4 := Lib.hid hb4; have HK4 := Lib.hid hblk4; have HG4 := Lib.hid hg4; clear hb4 hblk4 hg4 hs4)
      refine bodyPost_ret (v := .tuple #[.agg #[.slice A a.length c, .slice A' b.length c'], .int .i64 10]) ?_ rfl ?_
      · exact results2 (fn := Try.f14) (p := 4) (q := 5) rfl _ (B + 1) (by rfl) HK4.out rfl
      rw [show Disk.snap a b tear = ((a, b), 10) by unfold Disk.snap; rw [Ho.out]; simp only; rw [if_pos hmax]]
      exact ⟨_, _, rfl, Bs.rec ⟨A, c, rfl, hca, H1.out.ext HE2.out⟩ R2b.out Hn.out HG4.out, Bs.rec ⟨A', c', rfl, hcb, H2.out.ext HE2.out⟩ R2b.out Hn.out HG4.out, HB4.out⟩
    · have hd0 : ((f.gen : Int) == 1000000) = false := by simp; omega
      obtain ⟨hd, Hhd⟩ : ∃ hd, Hid (Disk.head (f.gen + 1) f.recs = hd) := ⟨_, Lib.hid rfl⟩
      have HH := fun w h => refHead_any Ar cr (f.gen + 1) f.recs w (by omega) (by omega) h
      rw [Hhd.out, show (((f.gen + 1 : Nat)) : Int) = (f.gen : Int) + 1 by omega] at HH
      have HH := Lib.hid HH
      clear htx2
      go_wp2_with (refine wpList_store_named rfl 57 _ _ rfl w1.heap.size _ rfl rfl 57 _ (heap_alloc_new _ _) (by kernel_rfl) rfl (by simp [Value.oneCell']) w1 (Ext.a1 _ _) (Nat.le_refl _) ?_; intro w2 hb2 hblk2 hs2 ho2; have RC := Lib.hid (show Rec w2 _ 57 _ from hblk2); have R1b := Lib.hid (show w2.heap[B]? = some (.cells _ 24 (0, 0)) from R1a.out.ext hb2); have R2b := Lib.hid (show w2.heap[B + 1]? = some (.cells _ 24 (0, 0)) from R2a.out.ext hb2); have HX2 := Lib.hid hb2; have hcr1 := RC.out.cell (i := 1) rfl; have hcg := RC.out.cell (i := 0) rfl; have HE2 := Lib.hid (HE1.out.trans' hb2); clear hb2 hblk2 hs2 ho2)
      refine (HH.out w2 (HLS.out.ext HX2.out)).mono ?_
      rintro e w3 ⟨v, rfl, hown, hb3⟩
      obtain ⟨Ah, ch, rfl, hch⟩ := hown.shape
      have HO3 := Lib.hid hown.row
      have HE3 := Lib.hid (HE2.out.trans' hb3)
      have R1c := Lib.hid (show w3.heap[B]? = some (.cells _ 24 (0, 0)) from Rec.ext (show Rec w2 B 24 _ from R1b.out) hb3)
      have R2c := Lib.hid (show w3.heap[B + 1]? = some (.cells _ 24 (0, 0)) from Rec.ext (show Rec w2 (B + 1) 24 _ from R2b.out) hb3)
      clear hown hb3 hcg hcr1
      by_cases hlong : 100000 < hd.length
      · have hd1 : decide ((100000 : Int) < (hd.length : Int)) = true := by simp; omega
        go_wp2_with first
          | (with_reducible refine wpList_load_row rfl 24 _ rfl B rfl 24 _ (0, 0) _ R1c.out Try.underlying24 rfl (by kernel_rfl) ?_)
          | (refine wpList_store_rec rfl 24 _ _ rfl (B + 1) _ rfl rfl 24 _ R2c.out (by kernel_rfl) rfl (by simp [Value.oneCell']) w HE3.out (by omega) ?_; intro w4 hb4 hblk4 hg4 hs4; have HB4 := Lib.hid hb4; have HK4 := Lib.hid hblk4; have HG4 := Lib.hid hg4; clear hb4 hblk4 hg4 hs4)
        refine bodyPost_ret (v := .tuple #[.agg #[.slice A a.length c, .slice A' b.length c'], .int .i64 60]) ?_ rfl ?_
        · exact results2 (fn := Try.f14) (p := 4) (q := 5) rfl _ (B + 1) (by rfl) HK4.out rfl
        rw [show Disk.snap a b tear = ((a, b), 60) by unfold Disk.snap; rw [Ho.out]; simp only; rw [if_neg hmax, if_pos (by rw [Hhd.out]; exact hlong)]]
        exact ⟨_, _, rfl, Bs.rec ⟨A, c, rfl, hca, H1.out.ext HE3.out⟩ R2c.out Hn.out HG4.out, Bs.rec ⟨A', c', rfl, hcb, H2.out.ext HE3.out⟩ R2c.out Hn.out HG4.out, HB4.out⟩
      · have hd1 : decide ((100000 : Int) < (hd.length : Int)) = false := by simp; omega
        obtain ⟨r, Hr⟩ : ∃ r, Hid (Disk.write [] (Frame.frame hd) tear = r) := ⟨_, Lib.hid rfl⟩
        have HA := Lib.hid (show Disk.snap a b tear = (Disk.put (!s) a b r.1, r.2) by unfold Disk.snap; rw [Ho.out]; simp only; rw [if_neg hmax, if_neg (by rw [Hhd.out]; exact hlong), Hhd.out, Hr.out])
        obtain ⟨fp, Hfp⟩ : ∃ fp, Hid (Frame.frame hd = fp) := ⟨_, Lib.hid rfl⟩
        have hfl := frame_len_le hd (by omega)
        rw [Hfp.out] at Hr hfl
        go_wp2_with fail
        refine (refOne_any Ah ch hd w3 (by omega) HO3.out).mono ?_
        rintro e w4 ⟨v, rfl, hown, hb4⟩
        rw [show Frame.sealed (Pack.text [] hd) = fp from Hfp.out] at hown
        obtain ⟨Af, cf, rfl, hcf⟩ := hown.shape
        have HO4 := Lib.hid hown.row
        have HB4 := Lib.hid hb4
        clear hown hb4
        go_wp2_with fail
        have HW := refWrite_any none Af 0 cf [] fp tear w4 ht1 ht2 (by simp) (by omega) (Row.nil _ _) HO4.out
        rw [Hr.out] at HW
        refine HW.mono ?_
        rintro e w5 ⟨v, rfl, hown, hb5⟩
        obtain ⟨Ax, cx, rfl, hcx⟩ := hown.shape
        have HO := Lib.hid hown.bs
        have HE5 := Lib.hid ((HE3.out.trans' HB4.out).trans' hb5)
        have R1d := Lib.hid (Rec.ext (show Rec w3 B 24 _ from R1c.out) (HB4.out.trans' hb5))
        have R2d := Lib.hid (show w5.heap[B + 1]? = some (.cells _ 24 (0, 0)) from Rec.ext (show Rec w3 (B + 1) 24 _ from R2c.out) (HB4.out.trans' hb5))
        clear hown hb5 HW
        cases s with
        | true =>
          have hcB := (R1d.out).cell (i := 1) rfl
          go_wp2_with (refine wpList_store_rec rfl 24 _ _ rfl (B + 1) _ rfl rfl 24 _ R2d.out (by kernel_rfl) rfl (by simp [Value.oneCell']) w HE5.out (by omega) ?_; intro w4 hb4 hblk4 hg4 hs4; have HB4 := Lib.hid hb4; have HK4 := Lib.hid hblk4; have HG4 := Lib.hid hg4; clear hb4 hblk4 hg4 hs4)
          rw [HA.out]
          refine bodyPost_ret (v := .tuple #[.agg #[.slice Ax r.1.length cx, .slice A' b.length c'], .int .i64 r.2]) ?_ rfl ?_
          · exact results2 (fn := Try.f14) (p := 4) (q := 5) rfl _ (B + 1) (by rfl) HK4.out rfl
          exact ⟨_, _, rfl, HO.out.rec R2d.out Hn.out HG4.out, Bs.rec ⟨A', c', rfl, hcb, H2.out.ext HE5.out⟩ R2d.out Hn.out HG4.out, HB4.out⟩
        | false =>
          have hcB := (R1d.out).cell (i := 0) rfl
          go_wp2_with (refine wpList_store_rec rfl 24 _ _ rfl (B + 1) _ rfl rfl 24 _ R2d.out (by kernel_rfl) rfl (by simp [Value.oneCell']) w HE5.out (by omega) ?_; intro w4 hb4 hblk4 hg4 hs4; have HB4 := Lib.hid hb4; have HK4 := Lib.hid hblk4; have HG4 := Lib.hid hg4; clear hb4 hblk4 hg4 hs4)
          rw [HA.out]
          refine bodyPost_ret (v := .tuple #[.agg #[.slice A a.length c, .slice Ax r.1.length cx], .int .i64 r.2]) ?_ rfl ?_
          · exact results2 (fn := Try.f14) (p := 4) (q := 5) rfl _ (B + 1) (by rfl) HK4.out rfl
          exact ⟨_, _, rfl, Bs.rec ⟨A, c, rfl, hca, H1.out.ext HE5.out⟩ R2d.out Hn.out HG4.out, HO.out.rec R2d.out Hn.out HG4.out, HB4.out⟩

end Go.Proofs.Ytjcngipaeoegcaa

namespace Go.Proofs.Ytjcngipaeoegcaa
open Go.RowKit

def RetOpen (w : World) (r : (List UInt8 × List UInt8) × List (List UInt8) × Int) (e : Ending) (w' : World) : Prop := ∃ v1 v2 A c, e = .returned (.tuple #[.agg #[v1, v2], .slice A r.2.1.length c, .int .i64 r.2.2]) ∧ Bs w' v1 r.1.1 ∧ Bs w' v2 r.1.2 ∧ r.2.1.length ≤ c ∧ Ls w' A r.2.1 ∧ Ext w w'
theorem results3 {fn : Func} {p q r : Tmp} (hf : fn.results = #[.cell p 24, .tmp q, .tmp r]) (tmps : Array Value) (g : Nat) (h2 : tmps.getD p undef = .pointer (some ⟨g, 0, none⟩)) {w : World} {cs : Array Value} (hg : Rec w g 24 cs) (hs : cs.size = 2) :
    (results fn tmps).run Try.prog w = .ok (.tuple #[.agg cs, tmps.getD q undef, tmps.getD r undef]) w := by
  have h2' : tmps[p]?.getD undef = .pointer (some ⟨g, 0, none⟩) := by simpa using h2
  have h := run_loadVar_row (P := Try.prog) w g 24 24 cs (0, 0) _ hg Try.underlying24 rfl (by rw [hs]; kernel_rfl)
  simp [results, hf, h2', asAddr, h, Result.andThen]

set_option maxHeartbeats 4000000 in
set_option maxRecDepth 100000 in
theorem refOpen_any (A A' : Option Addr) (c c' : Nat) (a b : List UInt8)  (w : World)  (hca : a.length ≤ c) (hcb : b.length ≤ c') (ha : a.length ≤ 10000000) (hb : b.length ≤ 10000000) (h1 : Row w A (a.map B8)) (h2 : Row w A' (b.map B8)) :
    Calls Try.prog 10 #[.agg #[.slice A a.length c, .slice A' b.length c']] w (RetOpen w (Disk.opened a b)) := by
  have H1 := Lib.hid h1
  have H2 := Lib.hid h2
  have HQ := fun w H1 H2 => of_any A A' c c' a b w hca hcb (by omega) (by omega) H1 H2
  have HR : Hid (Disk.opened a b = Disk.opened a b) := Lib.hid rfl
  clear h1 h2
  obtain ⟨B, hB⟩ : ∃ B, w.heap.size = B := ⟨_, rfl⟩
  obtain ⟨o, Ho⟩ : ∃ o, Hid (Disk.which a b = o) := ⟨_, Lib.hid rfl⟩
  rw [Ho.out] at HQ
  have HQ := Lib.hid HQ
  go_enter Try.func10, Try.ntmps10
  go_wp2_with fail
  obtain ⟨wx, hwx⟩ : ∃ wx, (w.alloc (.cells #[.slice A a.length c, .slice A' b.length c'] 24)).alloc (.cells #[.slice none 0 0, .slice none 0 0] 24) = wx := ⟨_, rfl⟩
  have HE := Lib.hid (show Ext w wx by rw [← hwx]; exact (Ext.a1 _ _).alloc' _)
  have R1 := Lib.hid (show Rec wx B 24 #[.slice A a.length c, .slice A' b.length c'] by rw [← hwx, ← hB]; exact (Rec.new w _ _).ext (Ext.a1 _ _))
  have R2 := Lib.hid (show Rec wx (B + 1) 24 #[.slice none 0 0, .slice none 0 0] by rw [← hwx, ← hB]; have := Rec.new (w.alloc (.cells #[.slice A a.length c, .slice A' b.length c'] 24)) 24 #[.slice none 0 0, .slice none 0 0]; rw [World.size_alloc] at this; exact this)
  try rw [hwx]
  have hn : ∀ u ∈ (#[.slice none 0 0, .slice none 0 0] : Array Value).toList, ∀ x, u ≠ B8 x := noBy2 (by intro y e; cases e) (by intro y e; cases e)
  have Hn := Lib.hid hn
  clear hn HR
  refine (HQ.out wx (H1.out.ext HE.out) (H2.out.ext HE.out)).mono ?_
  cases o with
  | none =>
    rintro e w1 ⟨x0, x1, x2, ⟨rfl, rfl, rfl⟩, rfl, hb1⟩
    rw [show Disk.second none = false from rfl]
    have HE1 := Lib.hid (HE.out.trans' hb1)
    have R1a := Lib.hid (R1.out.ext hb1)
    have R2a := Lib.hid (R2.out.ext hb1)
    clear hb1
    go_wp2_with first
      | (refine wpList_store_named rfl 57 _ _ rfl w1.heap.size _ rfl rfl 57 _ (heap_alloc_new _ _) (by kernel_rfl) rfl (by simp [Value.oneCell']) w1 (Ext.a1 _ _) (Nat.le_refl _) ?_; intro w2 hb2 hblk2 hs2 ho2; have RC := Lib.hid (show Rec w2 _ 57 _ from hblk2); have R1b := Lib.hid (show w2.heap[B]? = some (.cells _ 24 (0, 0)) from R1a.out.ext hb2); have R2b := Lib.hid (show w2.heap[B + 1]? = some (.cells _ 24 (0, 0)) from R2a.out.ext hb2); have hcg := RC.out.cell (i := 0) rfl; have HE2 := Lib.hid (HE1.out.trans' hb2); clear hb2 hblk2 hs2 ho2)
      | (with_reducible refine wpList_load_row rfl 24 _ rfl B rfl 24 _ (0, 0) _ R1b.out Try.underlying24 rfl (by kernel_rfl) ?_)
      | (refine wpList_store_rec rfl 24 _ _ rfl (B + 1) _ rfl rfl 24 _ R2b.out (by kernel_rfl) rfl (by simp [Value.oneCell']) w HE2.out (by omega) ?_; intro w4 hb4 hblk4 hg4 hs4; have HB4 := Lib.hid hb4; have HK4 := Lib.hid hblk4; have HG4 := Lib.hid hg4; clear hb4 hblk4 hg4 hs4)
    refine bodyPost_ret (v := .tuple #[.agg #[.slice A a.length c, .slice A' b.length c'], .slice none 0 0, .int .i64 60]) ?_ rfl ?_
    · exact results3 (fn := Try.f10) (p := 2) (q := 3) (r := 4) rfl _ (B + 1) (by rfl) HK4.out rfl
    rw [show Disk.opened a b = ((a, b), [], 60) by unfold Disk.opened; rw [Ho.out]]
    exact ⟨_, _, _, _, rfl, Bs.rec ⟨A, c, rfl, hca, H1.out.ext HE2.out⟩ R2b.out Hn.out HG4.out, Bs.rec ⟨A', c', rfl, hcb, H2.out.ext HE2.out⟩ R2b.out Hn.out HG4.out, Nat.le_refl _, Ls.none _, HB4.out⟩
  | some q =>
    obtain ⟨s, f⟩ := q
    rintro e w1 ⟨x0, x1, x2, ⟨rfl, ⟨Ar, cr, rfl, hcr, hls⟩, rfl⟩, rfl, hb1⟩
    have HE1 := Lib.hid (HE.out.trans' hb1)
    have R1a := Lib.hid (R1.out.ext hb1)
    have R2a := Lib.hid (R2.out.ext hb1)
    have HLS := Lib.hid hls
    have HB1 := Lib.hid hb1
    have hgen := (Disk.file_gen (Disk.which_file Ho.out)).1
    have hg0 : ((f.gen : Int) == 0) = false := by simp; omega
    have hC1 : w1.heap.size ≠ B + 1 := by have := R2a.out.lt; omega
    have HA := Lib.hid (show Disk.opened a b = (Disk.put s a b f.good, f.recs, 0) by unfold Disk.opened; rw [Ho.out])
    obtain ⟨r, Hr⟩ : ∃ r, Hid (Disk.put s a b f.good = r) := ⟨_, Lib.hid rfl⟩
    have HCUT := fun w H1 H2 => cut_any A A' none c c' 0 a b [] 0 s f w (by omega) (by omega) hca hcb (by omega) (by omega) (by simp) H1 H2 (Row.nil _ _) Ho.out
    rw [show Disk.write f.good [] 0 = (f.good, 0) by unfold Disk.write; simp, Hr.out] at HCUT
    rw [Hr.out] at HA
    obtain ⟨rs, Hrs⟩ : ∃ rs, Hid (f.recs = rs) := ⟨_, Lib.hid rfl⟩
    rw [Hrs.out] at HA HLS hcr
    rw [Hrs.out]
    have HCUT := Lib.hid HCUT
    clear hls hb1
    go_wp2_with first
      | (refine wpList_store_named rfl 57 _ _ rfl w1.heap.size _ rfl rfl 57 _ (heap_alloc_new _ _) (by kernel_rfl) rfl (by simp [Value.oneCell']) w1 (Ext.a1 _ _) (Nat.le_refl _) ?_; intro w2 hb2 hblk2 hs2 ho2; have HX2 := Lib.hid hb2; have RC := Lib.hid (show Rec w2 _ 57 _ from hblk2); have R1b := Lib.hid (show w2.heap[B]? = some (.cells _ 24 (0, 0)) from R1a.out.ext hb2); have R2b := Lib.hid (show w2.heap[B + 1]? = some (.cells _ 24 (0, 0)) from R2a.out.ext hb2); have hcg := RC.out.cell (i := 0) rfl; have HE2 := Lib.hid (HE1.out.trans' hb2); clear hb2 hblk2 hs2 ho2)
      | (with_reducible refine wpList_load_row rfl 24 _ rfl B rfl 24 _ (0, 0) _ R1b.out Try.underlying24 rfl (by kernel_rfl) ?_)
    obtain ⟨C, hC⟩ : ∃ C, w1.heap.size = C := ⟨_, rfl⟩
    rw [hC] at RC hC1 ⊢
    refine (HCUT.out w2 (H1.out.ext HE2.out) (H2.out.ext HE2.out)).mono ?_
    rintro e w3 ⟨y1, y2, rfl, hy1, hy2, hb3⟩
    have HY1 := Lib.hid hy1
    have HY2 := Lib.hid hy2
    have HY1c := hy1.cell1
    have HY2c := hy2.cell1
    have HE3 := Lib.hid (HE2.out.trans' hb3)
    have HLS3 := Lib.hid (HLS.out.ext (HX2.out.trans' hb3))
    have RC3 := Lib.hid (RC.out.ext hb3)
    have R2c := Lib.hid (Rec.ext (show Rec w2 (B + 1) 24 _ from R2b.out) hb3)
    clear hy1 hy2 hb3 hcg
    go_wp2_with (refine wpList_store_named rfl 24 _ _ rfl w3.heap.size _ rfl rfl 24 _ (heap_alloc_new _ _) (by kernel_rfl) rfl (by simp [HY1c, HY2c]) w3 (Ext.a1 _ _) (Nat.le_refl _) ?_; intro w4 hb4 hblk4 hs4 ho4; have RN := Lib.hid (show Rec w4 _ 24 _ from hblk4); have RC4 := Lib.hid (RC3.out.ext hb4); have R2d := Lib.hid (R2c.out.ext hb4); have HE4 := Lib.hid (HE3.out.trans' hb4); have HY1d := Lib.hid (HY1.out.ext hb4); have HY2d := Lib.hid (HY2.out.ext hb4); have HLS4 := Lib.hid (HLS3.out.ext hb4); clear hb4 hblk4 hs4 ho4)
    have hBw : B + 2 ≤ w4.heap.size := by have := R2d.out.lt; omega
    obtain ⟨N, hN⟩ : ∃ N, w3.heap.size = N := ⟨_, rfl⟩
    rw [hN] at RN ⊢
    apply wp_region_gen (B) 3 ((by omega)) (by kernel_rfl) (by kernel_rfl) (by kernel_rfl)
      [Is (.agg #[y1, y2]), Is (.pointer (some ⟨C, 1, none⟩)), Is (.slice Ar rs.length cr), RecSay (B + 1) 24 (fun w vs => vs = #[y1, y2] ∧ Bs w y1 r.1 ∧ Bs w y2 r.2 ∧ LsO w 0 (.slice Ar rs.length cr) rs), Is (.slice Ar rs.length cr), Is (.int .i64 0)] (fun i w' => (i = 0 → Rec w' N 24 #[y1, y2]) ∧ (i = 2 → Rec w' C 57 #[.int .i64 (f.gen : Int), .slice Ar rs.length cr, .int .i64 (f.good.length : Int)]) ∧ (i = 3 → Rec w' (B + 1) 24 #[.slice none 0 0, .slice none 0 0] ∧ Ext w4 w'))
    case mono => exact ⟨Is.st _, Is.st _, Is.st _, Say.st_of (fun w w' v he ⟨vs, h1, h2, h3, h4, h5⟩ => ⟨vs, h1.ext he, h2, h3.ext he, h4.ext he, h5.ext he⟩), Is.st _, Is.st _, True.intro⟩
    case monoS => exact fun i w w' he h => ⟨fun e => (h.1 e).ext he, fun e => (h.2.1 e).ext he, fun e => ⟨(h.2.2 e).1.ext he, (h.2.2 e).2.trans' he⟩⟩
    case startS => exact fun i => ⟨fun _ => RN.out, fun _ => RC4.out, fun _ => ⟨R2d.out, Below.refl _ _⟩⟩
    case hF => intro u; simp only [fill, Nat.reduceAdd, List.setIfInBounds_toArray, List.set_cons_succ, List.set_cons_zero]; exact rfl
    case steps =>
      refine StepsG.cons ?_ ?_
      · intro u w1 K hE hS hU hd hK hW
        have hR := hS.1 rfl
        refine if_run rfl ?_
        refine wp_load_row 24 (.tmp 7) rfl N rfl 24 _ (0, 0) _ hR Try.underlying24 rfl (by kernel_rfl) ?_
        exact hK _ _ (Below.refl _ _) rfl
      refine StepsG.cons ?_ ?_
      · intro u w1 K hE hS hU hd hK hW
        go_simp
        exact hK _ _ (Below.refl _ _) rfl
      refine StepsG.cons ?_ ?_
      · intro u w1 K hE hS hU hd hK hW
        have d1 : u 1 = (.pointer (some ⟨C, 1, none⟩)) := hd 1 rfl
        simp only [d1] at hK
        have hc := (hS.2.1 rfl).cell (i := 1) rfl
        go_simp
        exact hK _ _ (Below.refl _ _) rfl
      refine StepsG.cons ?_ ?_
      · intro u w1 K hE hS hU hd hK hW
        have d0 : u 0 = (.agg #[y1, y2]) := hd 0 rfl
        obtain ⟨hR, hX⟩ := hS.2.2 rfl
        refine if_run rfl ?_
        refine wp_store_row 24 (.tmp 2) (.tmp 23) rfl (B + 1) _ rfl d0 24 _ hR (by kernel_rfl) rfl (by simp [HY1c, HY2c]) ?_
        have hg := grown_setRow w1 (B + 1) #[y1, y2]
        have ht := Turns.ofRec (B := B) hR (by decide) (by omega)
        exact hW undef _ (Below.grown (Below.refl B w1) hg (by have := hE.size; omega) (fun k e => (ht k e).1)) ⟨fun _ _ h => h, fun _ _ h => h, fun _ _ h => h, fun hk => absurd hk (by decide), fun _ _ h => h, fun _ _ h => h, True.intro⟩ (fun k hk h => ⟨fun e => absurd hk (by subst e; decide), fun e => (h.2.1 e).turned hg (by intro e2; injection e2 with e2; omega), fun e => absurd hk (by subst e; decide)⟩)  ⟨_, hR.setRow _, rfl, (HY1d.out.ext hX).rec hR Hn.out hg, (HY2d.out.ext hX).rec hR Hn.out hg, (HLS4.out.ext hX).rec hR (by decide) Hn.out hg⟩
      refine StepsG.cons ?_ ?_
      · intro u w1 K hE hS hU hd hK hW
        have d2 : u 2 = (.slice Ar rs.length cr) := hd 2 rfl
        simp only [d2] at hK
        go_simp
        exact hK _ _ (Below.refl _ _) rfl
      refine StepsG.cons ?_ ?_
      · intro u w1 K hE hS hU hd hK hW
        go_simp
        exact hK _ _ (Below.refl _ _) rfl
      exact StepsG.nil
    case fin =>
      intro u w9 hE9 hP
      
      have d4 : u 4 = (.slice Ar rs.length cr) := hP 4 (by decide) (by decide)
      have d5 : u 5 = (.int .i64 0) := hP 5 (by decide) (by decide)
      simp only [d4, d5]
      obtain ⟨vs, hR9, hv9, h91, h92, h93⟩ := hP 3 (by decide) (by decide)
      subst hv9
      have HX9 := Lib.hid hE9
      clear hE9 hP
      go_wp2_with fail
      refine bodyPost_ret (v := .tuple #[.agg #[y1, y2], .slice Ar rs.length cr, .int .i64 0]) ?_ rfl ?_
      · exact results3 (fn := Try.f10) (p := 2) (q := 3) (r := 4) rfl _ (B + 1) (by rfl) hR9 rfl
      rw [HA.out]
      exact ⟨_, _, _, _, rfl, h91, h92, hcr, h93.ls, by have h1 := HE4.out; have h2 := HX9.out; rw [← hB] at h2; exact h1.trans h2⟩

end Go.Proofs.Ytjcngipaeoegcaa
