/-
  Disks: the document's way to read a file; a disk's file.
-/
import Derived.Test.YtjcngipaeoegcaaD9
namespace Go.Proofs.Ytjcngipaeoegcaa
open Go.RowKit

/-- What a file tells, as the document's program holds it. -/
def RefIs (w : World) (o : Option Disk.File) (v0 v1 v2 : Value) : Prop := match o with
  | none => v0 = .int .i64 0 ∧ v1 = .slice none 0 0 ∧ v2 = .int .i64 0
  | some f => v0 = .int .i64 (f.gen : Int) ∧ (∃ A c, v1 = .slice A f.recs.length c ∧ f.recs.length ≤ c ∧ LsO w 0 (.slice A f.recs.length c) f.recs) ∧ v2 = .int .i64 (f.good.length : Int)
theorem RefIs.ext {w w' : World} {o : Option Disk.File} {v0 v1 v2 : Value} (h : RefIs w o v0 v1 v2) (he : Ext w w') : RefIs w' o v0 v1 v2 := by
  cases o with
  | none => exact h
  | some f =>
    obtain ⟨h0, ⟨A, c, h1, hc, h2⟩, h3⟩ := h
    exact ⟨h0, ⟨A, c, h1, hc, h2.ext he⟩, h3⟩
theorem RefIs.cells {w : World} {o : Option Disk.File} {v0 v1 v2 : Value} (h : RefIs w o v0 v1 v2) : (#[v0, v1, v2] : Array Value).all (·.oneCell') = true := by
  cases o with
  | none => obtain ⟨rfl, rfl, rfl⟩ := h; simp [Value.oneCell']
  | some f => obtain ⟨rfl, ⟨A, c, rfl, _⟩, rfl⟩ := h; simp [Value.oneCell']

set_option maxHeartbeats 4000000 in
set_option maxRecDepth 100000 in
theorem refRead_any (A : Option Addr) (c : Nat) (b : List UInt8) (w : World) (hc : b.length ≤ c) (hb : b.length ≤ 100000000) (h1 : Row w A (b.map B8)) :
    Calls Try.prog 40 #[.slice A b.length c] w fun e w' => ∃ v0 v1 v2, RefIs w' (Disk.file b) v0 v1 v2 ∧ e = .returned (.agg #[v0, v1, v2]) ∧ Ext w w' := by
  have H1 := Lib.hid h1
  clear h1
  have HN := Lib.hid (Frame.all_few b)
  have hgood := Frame.all_rest b
  obtain ⟨gl, Hgl⟩ : ∃ gl : Nat, Hid (gl = b.length - (Frame.all b).2.length) := ⟨_, Lib.hid rfl⟩
  have HGL := Lib.hid (show (b.length : Int) - ((Frame.all b).2.length : Int) = (gl : Int) ∧ gl ≤ b.length by rw [Hgl.out]; omega)
  clear hgood
  obtain ⟨B, hB⟩ : ∃ B, w.heap.size = B := ⟨_, rfl⟩
  go_enter Try.func40, Try.ntmps40
  go_wp2_with fail
  obtain ⟨wx, hwx⟩ : ∃ wx, w.alloc (.cells #[.int .i64 0, .slice none 0 0, .int .i64 0] 57) = wx := ⟨_, rfl⟩
  have HE := Lib.hid (show Ext w wx by rw [← hwx]; exact Ext.a1 _ _)
  have R1 := Lib.hid (show Rec wx B 57 #[.int .i64 0, .slice none 0 0, .int .i64 0] by rw [← hwx, ← hB]; exact Rec.new w _ _)
  rw [hwx]
  clear hwx
  have HQ := refFall_any A c b wx hc hb (H1.out.ext HE.out)
  rw [HGL.out.1] at HQ
  refine HQ.mono ?_
  clear HQ
  rintro e w1 ⟨Al, cl, rfl, hcl, hls, hb1⟩
  have HL := Lib.hid hls
  have HE1 := Lib.hid (HE.out.trans' hb1)
  have R1b := Lib.hid (show w1.heap[B]? = some (.cells #[.int .i64 0, .slice none 0 0, .int .i64 0] 57 (0, 0)) from R1.out.ext hb1)
  clear hls hb1
  cases hall : (Frame.all b).1 with
  | nil =>
    have HF := Lib.hid (Disk.file_nil hall)
    clear hall HL
    go_wp2_with (with_reducible refine wpList_store_row rfl 57 _ _ rfl B _ rfl rfl 57 _ R1b.out (by kernel_rfl) rfl (by simp [Value.oneCell']) ?_)
    rw [setRow_id _ _ _ _ R1b.out]
    exact bodyPost_ret (v := .agg #[.int .i64 0, .slice none 0 0, .int .i64 0]) (results_cell_row rfl _ _ B 57 _ (0, 0) _ rfl R1b.out Try.underlying57 rfl (by kernel_rfl)) rfl ⟨_, _, _, (by rw [HF.out]; exact ⟨rfl, rfl, rfl⟩), rfl, HE1.out⟩
  | cons hd t =>
    rw [hall] at HL HN hcl
    have hhd : hd.length ≤ 100000 := HN.out.2 hd (by simp)
    have htl : t.length ≤ 100000000 := by have := HN.out.1; simp at this; omega
    obtain ⟨ad, u, had, hcu, hbu⟩ := HL.out.at_ (k := 0) (by simp)
    subst had
    rw [show ad.add 0 = ad by unfold Addr.add; simp] at hcu
    simp only [List.getElem_cons_zero] at hbu
    obtain ⟨Ah, ch, hu, hch, hrh⟩ := hbu
    subst hu
    have HQ := refParse_any Ah ch hd w1 hch (by omega) hrh
    have HTL := Lib.hid (HL.out.cut (k := 1) hcl)
    have hnl : (((hd :: t).length : Int) == 0) = false := by simp; omega
    clear hrh
    cases hp : Disk.parse hd with
    | none =>
      have HF := Lib.hid (Disk.file_bad hall hp)
      rw [hp] at HQ
      have HQ := Lib.hid HQ
      clear hall hp
      go_wp2_with fail
      refine HQ.out.mono ?_
      rintro e w2 ⟨hb2, rfl⟩
      have HE2 := Lib.hid (HE1.out.trans' hb2)
      have R2b := Lib.hid (show w2.heap[B]? = some (.cells #[.int .i64 0, .slice none 0 0, .int .i64 0] 57 (0, 0)) from Rec.ext (show Rec w1 B 57 _ from R1b.out) hb2)
      clear hb2
      go_wp2_with (with_reducible refine wpList_store_row rfl 57 _ _ rfl B _ rfl rfl 57 _ R2b.out (by kernel_rfl) rfl (by simp [Value.oneCell']) ?_)
      rw [setRow_id _ _ _ _ R2b.out]
      exact bodyPost_ret (v := .agg #[.int .i64 0, .slice none 0 0, .int .i64 0]) (results_cell_row rfl _ _ B 57 _ (0, 0) _ rfl R2b.out Try.underlying57 rfl (by kernel_rfl)) rfl ⟨_, _, _, (by rw [HF.out]; exact ⟨rfl, rfl, rfl⟩), rfl, HE2.out⟩
    | some q =>
      obtain ⟨g, rs⟩ := q
      have HF := Lib.hid (Disk.file_ok hall hp)
      rw [← Hgl.out] at HF
      have hgb := (Disk.parse_own _ _ _ hp).2
      have hg0 : ((g : Int) == 0) = false := by simp; omega
      have hrsl : rs.length ≤ 100000 := by
        have h1 := (Disk.parse_own _ _ _ hp).1
        have h2 := Disk.head_length g rs
        have h3 := Disk.texts_count rs
        rw [← h1] at h2
        omega
      rw [hp] at HQ
      have HQ := Lib.hid HQ
      clear hall hp
      go_wp2_with fail
      refine HQ.out.mono ?_
      rintro e w2 ⟨hb2, vr, rfl, hlr⟩
      obtain ⟨Ar, cr, hvr, hcr⟩ := hlr.1.shape
      subst hvr
      have HLR := Lib.hid hlr
      have HE2 := Lib.hid (HE1.out.trans' hb2)
      have HTL2 := Lib.hid (HTL.out.ext hb2)
      have R2 := Lib.hid (show Rec w2 B 57 _ from Rec.ext (show Rec w1 B 57 _ from R1b.out) hb2)
      have hw12 : w1.heap.size ≤ w2.heap.size := hb2.size
      have hBw : B < w1.heap.size := by exact Rec.lt (show Rec w1 B 57 _ from R1b.out)
      clear hlr hb2
      have hcut := fun w => run_cut27 (some ad) (t.length + 1) cl 1 (by omega) 1 rfl w
      obtain ⟨At, HAt⟩ : ∃ At, Hid (At = if cl = 1 then some ad else (some ad).map (·.add 1)) := ⟨_, Lib.hid rfl⟩
      rw [← HAt.out] at HTL2 hcut
      simp only [List.drop_succ_cons, List.drop_zero] at HTL2
      obtain ⟨nR, HnR⟩ : ∃ nR, Hid (rs.length + t.length = nR) := ⟨_, Lib.hid rfl⟩
      go_wp2_with first
        | (at_builtin; refine wpList_append_lists (l1 := rs) (l2 := t) (m := t.length) st52 rfl (.tmp 27) (.tmp 29) rfl HLR.out rfl rfl rfl HTL2.out (by omega) hw12 ?_; intro A3 c3 w3 hown3 hg3; have R3 := Lib.hid (show w3.heap[B]? = some (.cells #[.int .i64 0, .slice none 0 0, .int .i64 0] 57 (0, 0)) from R2.out.turned hg3 (fun e => by have := (HLR.out.1.lt B e).1; omega)); have HE3 := Lib.hid (show Ext w w3 from Below.grown HE2.out hg3 HE2.out.size (fun g e => by have := (HLR.out.1.lt g e).1; omega)); rw [HnR.out] at hown3 ⊢; have HO3 := Lib.hid hown3; clear hown3 hg3)
        | (refine wpList_store_row rfl 57 _ _ rfl B _ rfl rfl 57 _ R3.out (by kernel_rfl) rfl (by simp [Value.oneCell']) ?_)
      exact bodyPost_ret (v := .agg #[.int .i64 (g : Int), .slice A3 nR c3, .int .i64 (gl : Int)]) (results_cell_row rfl _ _ B 57 _ (0, 0) _ rfl (setRow_heap _ B _ _ _ _ R3.out) Try.underlying57 rfl (by kernel_rfl)) rfl
        ⟨_, _, _, (by
          rw [HF.out]
          have hgl := HGL.out.2
          have hg := grown_setRow w3 B #[.int .i64 (g : Int), .slice A3 nR c3, .int .i64 (gl : Int)]
          have hb3 : w3.heap.size = w3.heap.size := rfl
          obtain ⟨A4, c4, he4, hc4⟩ := HO3.out.1.shape
          injection he4 with _ e1 e2
          have hLs := (HO3.out.1.rec (show Rec w3 B 57 _ from R3.out) (by decide) (by intro u hu x e; simp only [List.mem_cons, List.not_mem_nil, or_false] at hu; rcases hu with rfl | rfl | rfl <;> cases e) hg).mono (Nat.zero_le _)
          exact ⟨rfl, ⟨A3, c3, by rw [e1], by rw [e2]; exact hc4, by rw [← e1]; exact hLs⟩, by rw [List.length_take, Nat.min_eq_left hgl]⟩), rfl,
         ext_grown hB HE3.out (grown_setRow w3 B _) (Nat.le_refl _)⟩

end Go.Proofs.Ytjcngipaeoegcaa
