/-
  Joined: D11, D12, DPlain, DCutsMath.
-/
import Derived.Test.YtjcngipaeoegcaaD10
import Derived.Test.YtjcngipaeoegcaaD4
namespace Go.Proofs.Ytjcngipaeoegcaa
open Go.RowKit

namespace Disk
def second (o : Option (Bool × File)) : Bool := match o with | none => false | some (s, _) => s
def gen (o : Option File) : Nat := match o with | none => 0 | some f => f.gen
theorem which_of (a b : List UInt8) : (gen (file a) < gen (file b) → which a b = (file b).map (fun f => (true, f)) ∧ second (which a b) = true) ∧ (¬ gen (file a) < gen (file b) → which a b = (file a).map (fun f => (false, f)) ∧ second (which a b) = false) := by
  unfold which
  cases ha : file a with
  | none =>
    cases hb : file b with
    | none => simp [gen, second]
    | some g => have := (file_gen hb).1; simp [gen, second]; omega
  | some f =>
    have := (file_gen ha).1
    cases hb : file b with
    | none => simp [gen, second]
    | some g =>
      simp only [gen]
      constructor
      · intro h; rw [if_pos h]; exact ⟨rfl, rfl⟩
      · intro h; rw [if_neg h]; exact ⟨rfl, rfl⟩
end Disk

theorem RefIs.gen {w : World} {o : Option Disk.File} {v0 v1 v2 : Value} (h : RefIs w o v0 v1 v2) : v0 = .int .i64 (Disk.gen o : Int) := by
  cases o with
  | none => exact h.1
  | some f => exact h.1
theorem RefIs.noByte {w : World} {o : Option Disk.File} {v0 v1 v2 : Value} (h : RefIs w o v0 v1 v2) : ∀ u ∈ (#[v0, v1, v2] : Array Value).toList, ∀ x, u ≠ B8 x := by
  intro u hu x e
  simp only [List.mem_cons, List.not_mem_nil, or_false] at hu
  cases o with
  | none => obtain ⟨rfl, rfl, rfl⟩ := h; rcases hu with rfl | rfl | rfl <;> cases e
  | some f => obtain ⟨rfl, ⟨A, c, rfl, _⟩, rfl⟩ := h; rcases hu with rfl | rfl | rfl <;> cases e

theorem RefIs.turned {w w' : World} {g : Nat} {t : TypeId} {cs : Array Value} {o : Option Disk.File} {v0 v1 v2 : Value} (h : RefIs w o v0 v1 v2) (hr : Rec w g t cs) (ht : t ≠ 22) (hv : ∀ u ∈ cs.toList, ∀ x, u ≠ B8 x) (hg : w.grownBy w' (some g)) : RefIs w' o v0 v1 v2 := by
  cases o with
  | none => exact h
  | some f =>
    obtain ⟨h0, ⟨A, c, h1, hc, h2⟩, h3⟩ := h
    exact ⟨h0, ⟨A, c, h1, hc, h2.rec hr ht hv hg⟩, h3⟩

theorem noBy57 : ∀ u ∈ (#[.int .i64 0, .slice none 0 0, .int .i64 0] : Array Value).toList, ∀ x, u ≠ B8 x := by
  intro u hu x e
  simp only [List.mem_cons, List.not_mem_nil, or_false] at hu
  rcases hu with rfl | rfl | rfl <;> cases e
theorem results25 (tmps : Array Value) (g : Nat) (h2 : tmps.getD 2 undef = .pointer (some ⟨g, 0, none⟩)) {w : World} {cs : Array Value} (hg : Rec w g 57 cs) (hs : cs.size = 3) :
    (results Try.f25 tmps).run Try.prog w = .ok (.tuple #[.agg cs, tmps.getD 3 undef]) w := by
  have h2' : tmps[2]?.getD undef = .pointer (some ⟨g, 0, none⟩) := by simpa using h2
  have h := run_loadVar_row (P := Try.prog) w g 57 57 cs (0, 0) _ hg Try.underlying57 rfl (by rw [hs]; kernel_rfl)
  simp [results, h2', asAddr, h, Result.andThen]

set_option maxHeartbeats 4000000 in
set_option maxRecDepth 100000 in
theorem of_any (A A' : Option Addr) (c c' : Nat) (a b : List UInt8) (w : World) (hca : a.length ≤ c) (hcb : b.length ≤ c') (ha : a.length ≤ 100000000) (hb : b.length ≤ 100000000) (h1 : Row w A (a.map B8)) (h2 : Row w A' (b.map B8)) :
    Calls Try.prog 25 #[.agg #[.slice A a.length c, .slice A' b.length c']] w fun e w' => ∃ v0 v1 v2, RefIs w' ((Disk.which a b).map (·.2)) v0 v1 v2 ∧ e = .returned (.tuple #[.agg #[v0, v1, v2], .bool (Disk.second (Disk.which a b))]) ∧ Ext w w' := by
  have H1 := Lib.hid h1
  have H2 := Lib.hid h2
  clear h1 h2
  obtain ⟨B, hB⟩ : ∃ B, w.heap.size = B := ⟨_, rfl⟩
  go_enter Try.func25, Try.ntmps25
  go_wp2_with fail
  obtain ⟨wx, hwx⟩ : ∃ wx, (w.alloc (.cells #[.slice A a.length c, .slice A' b.length c'] 24)).alloc (.cells #[.int .i64 0, .slice none 0 0, .int .i64 0] 57) = wx := ⟨_, rfl⟩
  have HE := Lib.hid (show Ext w wx by rw [← hwx]; exact (Ext.a1 _ _).alloc' _)
  have R1 := Lib.hid (show Rec wx B 24 #[.slice A a.length c, .slice A' b.length c'] by rw [← hwx, ← hB]; exact (Rec.new w _ _).ext (Ext.a1 _ _))
  have R2 := Lib.hid (show Rec wx (B + 1) 57 #[.int .i64 0, .slice none 0 0, .int .i64 0] by rw [← hwx, ← hB]; have := Rec.new (w.alloc (.cells #[.slice A a.length c, .slice A' b.length c'] 24)) 57 #[.int .i64 0, .slice none 0 0, .int .i64 0]; rw [World.size_alloc] at this; exact this)
  try rw [hwx]
  refine (refRead_any A c a wx hca ha (H1.out.ext HE.out)).mono ?_
  rintro e w1 ⟨x0, x1, x2, hx, rfl, hb1⟩
  have hxg := hx.gen
  subst hxg
  have hxc := hx.cells
  have HX := Lib.hid hx
  have hB1 : B + 2 ≤ w1.heap.size := by have := R2.out.lt; have := hb1.size; omega
  have HB1 := Lib.hid hb1
  have R1b := R1.out.ext HB1.out
  have R2b := R2.out.ext HB1.out
  have HB2 := Lib.hid (HE.out.trans' HB1.out)
  have H2b := H2.out.ext HB2.out
  have HC1 := R1b.cell (i := 1) rfl
  have HR1 := Lib.hid R1b
  have HR2 := Lib.hid R2b
  have HH2 := Lib.hid H2b
  clear hx hb1 H2 R1b R2b H2b H1 R1 R2
  go_wp2_with (refine wpList_store_named rfl 57 _ _ rfl w1.heap.size _ rfl rfl 57 _ (heap_alloc_new _ _) (by kernel_rfl) rfl hxc w1 (Ext.a1 _ _) (Nat.le_refl _) ?_; intro w2 hb2 hblk2 hs2 ho2; have HC2 := HR1.out.ext hb2 |>.cell (i := 1) rfl; have HR1' := Lib.hid (HR1.out.ext hb2); have HR2' := Lib.hid (HR2.out.ext hb2); have HH2' := Lib.hid (HH2.out.ext hb2); have HX' := Lib.hid (HX.out.ext hb2); have HB2' := Lib.hid (HB2.out.trans' hb2); have HK2 := Lib.hid hblk2; have HS2 := Lib.hid hs2; clear hb2 hblk2 hs2 ho2)
  refine (refRead_any A' c' b w2 hcb hb HH2'.out).mono ?_
  rintro e w3 ⟨y0, y1, y2, hy, rfl, hb3⟩
  have hyg := hy.gen
  subst hyg
  have hyc := hy.cells
  have HY := Lib.hid hy
  have HX3 := Lib.hid (HX'.out.ext hb3)
  have HB3 := Lib.hid (HB2'.out.trans' hb3)
  have RC3 := Lib.hid (show Rec w3 w1.heap.size 57 _ from Rec.ext (show Rec w2 w1.heap.size 57 _ from HK2.out) hb3)
  have RB3 := Lib.hid (HR2'.out.ext hb3)
  have hC1 : w1.heap.size ≠ B + 1 := by omega
  clear hy hb3 HR1' HR2' HK2 HS2 HX'
  obtain ⟨C, hC⟩ : ∃ C, w1.heap.size = C := ⟨_, rfl⟩
  obtain ⟨gx, Hgx⟩ : ∃ gx, Hid (Disk.gen (Disk.file a) = gx) := ⟨_, Lib.hid rfl⟩
  obtain ⟨gy, Hgy⟩ : ∃ gy, Hid (Disk.gen (Disk.file b) = gy) := ⟨_, Lib.hid rfl⟩
  have HW := Lib.hid (Disk.which_of a b)
  have HZ := Lib.hid (show wx.heap.size = B + 2 by rw [← hwx, ← hB]; simp)
  rw [hC] at RC3 hC1
  rw [Hgx.out] at hxc HX3 RC3 HW
  rw [Hgy.out] at hyc HY HW
  rw [hC, Hgx.out, Hgy.out]
  by_cases hcmp : gx < gy
  · have hd1 : decide ((gx : Int) < (gy : Int)) = true := by simp; omega
    have hd2 : decide (gx < gy) = true := by simp; omega
    have HWW := Lib.hid (HW.out.1 hcmp)
    clear hcmp HW
    go_wp2_with first
      | (refine wpList_store_named rfl 57 _ _ rfl w3.heap.size _ rfl rfl 57 _ (heap_alloc_new _ _) (by kernel_rfl) rfl hyc w3 (Ext.a1 _ _) (Nat.le_refl _) ?_; intro w4 hb4 hblk4 hs4 ho4; have hc41 := (show Rec w4 _ 57 _ from hblk4).cell (i := 0) rfl; have hc42 := (RC3.out.ext hb4).cell (i := 0) rfl; have RD4 := Lib.hid hblk4; have RB4 := Lib.hid (show w4.heap[B + 1]? = some (.cells _ 57 (0, 0)) from RB3.out.ext hb4); have HY4 := Lib.hid (HY.out.ext hb4); have HB4 := Lib.hid (HB3.out.trans' hb4); clear hb4 hblk4 hs4 ho4)
      | (with_reducible refine wpList_load_row rfl 57 _ rfl w3.heap.size rfl 57 _ (0, 0) _ RD4.out Try.underlying57 rfl (by kernel_rfl) ?_)
      | (refine wpList_store_row rfl 57 _ _ rfl (B + 1) _ rfl rfl 57 _ RB4.out (by kernel_rfl) rfl hyc ?_)
    have hg := grown_setRow w4 (B + 1) #[.int .i64 (gy : Int), y1, y2]
    refine bodyPost_ret (v := .tuple #[.agg #[.int .i64 (gy : Int), y1, y2], .bool true]) ?_ rfl ?_
    · exact results25 _ (B + 1) rfl (Rec.setRow RB4.out _) rfl
    refine ⟨_, _, _, ?_, by rw [HWW.out.2], ?_⟩
    · rw [HWW.out.1]
      have := HY4.out.turned RB4.out (by decide) noBy57 hg
      rw [show ((Disk.file b).map (fun f => (true, f))).map (·.2) = Disk.file b by cases Disk.file b <;> rfl]
      exact this
    · exact ext_grown hB HB4.out hg (by omega)
  · have hd1 : decide ((gx : Int) < (gy : Int)) = false := by simp; omega
    have hd2 : decide (gx < gy) = false := by simp; omega
    have HWW := Lib.hid (HW.out.2 hcmp)
    clear hcmp HW
    go_wp2_with first
      | (refine wpList_store_named rfl 57 _ _ rfl w3.heap.size _ rfl rfl 57 _ (heap_alloc_new _ _) (by kernel_rfl) rfl hyc w3 (Ext.a1 _ _) (Nat.le_refl _) ?_; intro w4 hb4 hblk4 hs4 ho4; have hc41 := (show Rec w4 _ 57 _ from hblk4).cell (i := 0) rfl; have hc42 := (RC3.out.ext hb4).cell (i := 0) rfl; have RC4 := Lib.hid (show w4.heap[C]? = some (.cells _ 57 (0, 0)) from RC3.out.ext hb4); have RB4 := Lib.hid (show w4.heap[B + 1]? = some (.cells _ 57 (0, 0)) from RB3.out.ext hb4); have HX4 := Lib.hid (HX3.out.ext hb4); have HB4 := Lib.hid (HB3.out.trans' hb4); clear hb4 hblk4 hs4 ho4)
      | (refine wpList_load_row rfl 57 _ rfl C rfl 57 _ (0, 0) _ RC4.out Try.underlying57 rfl (by kernel_rfl) ?_)
      | (refine wpList_store_row rfl 57 _ _ rfl (B + 1) _ rfl rfl 57 _ RB4.out (by kernel_rfl) rfl hxc ?_)
    have hg := grown_setRow w4 (B + 1) #[.int .i64 (gx : Int), x1, x2]
    refine bodyPost_ret (v := .tuple #[.agg #[.int .i64 (gx : Int), x1, x2], .bool false]) ?_ rfl ?_
    · exact results25 _ (B + 1) rfl (Rec.setRow RB4.out _) rfl
    refine ⟨_, _, _, ?_, by rw [HWW.out.2], ?_⟩
    · rw [HWW.out.1]
      have := HX4.out.turned RB4.out (by decide) noBy57 hg
      rw [show ((Disk.file a).map (fun f => (false, f))).map (·.2) = Disk.file a by cases Disk.file a <;> rfl]
      exact this
    · exact ext_grown hB HB4.out hg (by omega)

end Go.Proofs.Ytjcngipaeoegcaa

namespace Go.Proofs.Ytjcngipaeoegcaa
open Go.RowKit

namespace Disk
def put (s : Bool) (a b x : List UInt8) : List UInt8 × List UInt8 := if s then (a, x) else (x, b)
theorem file_good {x : List UInt8} {f : File} (h : file x = some f) : f.good = x.take f.good.length ∧ f.good.length ≤ x.length := by
  unfold file at h
  split at h
  · cases h
  · rename_i hd t _
    cases hp : parse hd with
    | none => rw [hp] at h; cases h
    | some q =>
      obtain ⟨g, rs⟩ := q
      rw [hp] at h
      injection h with h
      subst h
      simp only [List.length_take]
      exact ⟨by rw [Nat.min_eq_left (by omega)], by omega⟩
theorem which_file {a b : List UInt8} {s : Bool} {f : File} (h : which a b = some (s, f)) : file (if s then b else a) = some f := by
  unfold which at h
  cases ha : file a with
  | none =>
    cases hb : file b with
    | none => rw [ha, hb] at h; cases h
    | some g => rw [ha, hb] at h; simp only [Option.some.injEq, Prod.mk.injEq] at h; obtain ⟨rfl, rfl⟩ := h; simpa using hb
  | some f' =>
    cases hb : file b with
    | none => rw [ha, hb] at h; simp only [Option.some.injEq, Prod.mk.injEq] at h; obtain ⟨rfl, rfl⟩ := h; simpa using ha
    | some g =>
      rw [ha, hb] at h
      simp only at h
      split at h
      · simp only [Option.some.injEq, Prod.mk.injEq] at h; obtain ⟨rfl, rfl⟩ := h; simpa using hb
      · simp only [Option.some.injEq, Prod.mk.injEq] at h; obtain ⟨rfl, rfl⟩ := h; simpa using ha
end Disk

/-- A disk and an error. -/
def RetDisk (w : World) (r : (List UInt8 × List UInt8) × Int) (e : Ending) (w' : World) : Prop := ∃ v1 v2, e = .returned (.tuple #[.agg #[v1, v2], .int .i64 r.2]) ∧ Bs w' v1 r.1.1 ∧ Bs w' v2 r.1.2 ∧ Ext w w'
theorem Bs.rec {w w' : World} {g : Nat} {t : TypeId} {cs : Array Value} {v : Value} {x : List UInt8} (h : Bs w v x) (hr : Rec w g t cs) (hv : ∀ u ∈ cs.toList, ∀ x, u ≠ B8 x) (hg : w.grownBy w' (some g)) : Bs w' v x := h.noBy (NoBy.ofRec hr hv) hg
theorem Bs.noB8 {w : World} {v : Value} {x : List UInt8} (h : Bs w v x) (y : UInt8) : v ≠ B8 y := by
  obtain ⟨A, c, rfl, _⟩ := h
  intro e
  cases e
theorem noBy2 {v1 v2 : Value} (h1 : ∀ y, v1 ≠ B8 y) (h2 : ∀ y, v2 ≠ B8 y) : ∀ u ∈ (#[v1, v2] : Array Value).toList, ∀ x, u ≠ B8 x := by
  intro u hu x
  simp only [List.mem_cons, List.not_mem_nil, or_false] at hu
  rcases hu with rfl | rfl
  · exact h1 x
  · exact h2 x
theorem Bs.cell1 {w : World} {v : Value} {x : List UInt8} (h : Bs w v x) : v.oneCell' = true := by
  obtain ⟨A, c, rfl, _⟩ := h
  rfl
theorem results2 {fn : Func} {p q : Tmp} (hf : fn.results = #[.cell p 24, .tmp q]) (tmps : Array Value) (g : Nat) (h2 : tmps.getD p undef = .pointer (some ⟨g, 0, none⟩)) {w : World} {cs : Array Value} (hg : Rec w g 24 cs) (hs : cs.size = 2) :
    (results fn tmps).run Try.prog w = .ok (.tuple #[.agg cs, tmps.getD q undef]) w := by
  have h2' : tmps[p]?.getD undef = .pointer (some ⟨g, 0, none⟩) := by simpa using h2
  have h := run_loadVar_row (P := Try.prog) w g 24 24 cs (0, 0) _ hg Try.underlying24 rfl (by rw [hs]; kernel_rfl)
  simp [results, hf, h2', asAddr, h, Result.andThen]
/-- A record of the call's own is laid anew. -/
theorem wpList_store_rec {P : Program} {ops : Array Oper} {rest : List Oper} {o : Oper} {a : Act} {w : World} {Q : Exit → Act → World → Prop} (hgd : o.guard = none) (ty : TypeId) (x y : Operand) (ho : o.op = .store ty x y)
    (g : Nat) (cells : Array Value) (hx : a.eval x = .pointer (some ⟨g, 0, none⟩)) (hy : a.eval y = .agg cells)
    (t : TypeId) (old : Array Value) (hg : w.heap[g]? = some (.cells old t (0, 0))) (hi : (P.info? ty).map (·.size) = some cells.size)
    (hold : old.size = cells.size) (h1 : cells.all (·.oneCell') = true) (w0 : World) (hw0 : Ext w0 w) (hg0 : w0.heap.size ≤ g)
    (h : ∀ w2, Ext w0 w2 → Rec w2 g t cells → w.grownBy w2 (some g) → w2.heap.size = w.heap.size → wpList P ops Q rest (a.put o.dst undef) w2) : wpList P ops Q (o :: rest) a w :=
  wpList_store_row hgd ty x y ho g cells hx hy t old hg hi hold h1
    (h _ (ext_grown rfl hw0 (grown_setRow w g cells) hg0) (setRow_heap w g old cells t _ hg) (grown_setRow w g cells) (by simp))

set_option maxHeartbeats 4000000 in
set_option maxRecDepth 100000 in
theorem cut_any (A A' A2 : Option Addr) (c c' c2 : Nat) (a b m : List UInt8) (tear : Int) (s : Bool) (f : Disk.File) (w : World) (ht1 : -9223372036854775808 ≤ tear) (ht2 : tear ≤ 9223372036854775807) (hca : a.length ≤ c) (hcb : b.length ≤ c') (ha : a.length ≤ 100000000) (hb : b.length ≤ 100000000) (hm : m.length ≤ 100000000) (h1 : Row w A (a.map B8)) (h2 : Row w A' (b.map B8)) (h3 : Row w A2 (m.map B8)) (hw : Disk.which a b = some (s, f)) :
    Calls Try.prog 26 #[.agg #[.slice A a.length c, .slice A' b.length c'], .slice A2 m.length c2, .int .i64 tear] w (RetDisk w (Disk.put s a b (Disk.write f.good m tear).1, (Disk.write f.good m tear).2)) := by
  have H1 := Lib.hid h1
  have H2 := Lib.hid h2
  have H3 := Lib.hid h3
  have HQ := fun w H1 H2 => of_any A A' c c' a b w hca hcb ha hb H1 H2
  rw [hw] at HQ
  have HG := Lib.hid (Disk.file_good (Disk.which_file hw))
  have HQ := Lib.hid HQ
  clear h1 h2 h3 hw
  obtain ⟨B, hB⟩ : ∃ B, w.heap.size = B := ⟨_, rfl⟩
  obtain ⟨fg, Hfg⟩ : ∃ fg, Hid (f.good = fg) := ⟨_, Lib.hid rfl⟩
  obtain ⟨r, Hr⟩ : ∃ r, Hid (Disk.write f.good m tear = r) := ⟨_, Lib.hid rfl⟩
  rw [Hr.out]
  rw [Hfg.out] at HG
  obtain ⟨gl, Hgl⟩ : ∃ gl, Hid (fg.length = gl) := ⟨_, Lib.hid rfl⟩
  rw [Hgl.out] at HG
  go_enter Try.func26, Try.ntmps26
  go_wp2_with fail
  obtain ⟨wx, hwx⟩ : ∃ wx, (w.alloc (.cells #[.slice A a.length c, .slice A' b.length c'] 24)).alloc (.cells #[.slice none 0 0, .slice none 0 0] 24) = wx := ⟨_, rfl⟩
  have HE := Lib.hid (show Ext w wx by rw [← hwx]; exact (Ext.a1 _ _).alloc' _)
  have R1 := Lib.hid (show Rec wx B 24 #[.slice A a.length c, .slice A' b.length c'] by rw [← hwx, ← hB]; exact (Rec.new w _ _).ext (Ext.a1 _ _))
  have R2 := Lib.hid (show Rec wx (B + 1) 24 #[.slice none 0 0, .slice none 0 0] by rw [← hwx, ← hB]; have := Rec.new (w.alloc (.cells #[.slice A a.length c, .slice A' b.length c'] 24)) 24 #[.slice none 0 0, .slice none 0 0]; rw [World.size_alloc] at this; exact this)
  try rw [hwx]
  refine (HQ.out wx (H1.out.ext HE.out) (H2.out.ext HE.out)).mono ?_
  rintro e w1 ⟨x0, x1, x2, ⟨rfl, ⟨Ar, cr, rfl, hcr, hls⟩, rfl⟩, rfl, hb1⟩
  have HE1 := Lib.hid (HE.out.trans' hb1)
  have R1a := Lib.hid (R1.out.ext hb1)
  have R2a := Lib.hid (R2.out.ext hb1)
  clear hls hb1
  rw [Hfg.out, Hgl.out]
  have hglg := HG.out.2
  cases s with
  | true =>
    rw [show Disk.second (some (true, f)) = true from rfl]
    simp only [if_true] at hglg HG
    have hglc : gl ≤ c' := by omega
    have hgli : (gl : Int) ≤ (c' : Int) := by omega
    go_wp2_with (refine wpList_store_named rfl 57 _ _ rfl w1.heap.size _ rfl rfl 57 _ (heap_alloc_new _ _) (by kernel_rfl) rfl (by simp [Value.oneCell']) w1 (Ext.a1 _ _) (Nat.le_refl _) ?_; intro w2 hb2 hblk2 hs2 ho2; have R1b := Lib.hid (R1a.out.ext hb2); have R2b := Lib.hid (R2a.out.ext hb2); have hc1 := R1b.out.cell (i := 1) rfl; have hc2 := (show Rec w2 _ 57 _ from hblk2).cell (i := 2) rfl; have HE2 := Lib.hid (HE1.out.trans' hb2); clear hb2 hblk2 hs2 ho2)
    have hrow : Row w2 A' (fg.map B8) := by rw [HG.out.1, List.map_take]; exact (H2.out.ext HE2.out).take gl
    have HW := refWrite_any A' A2 c' c2 fg m tear w2 ht1 ht2 (by rw [Hgl.out]; omega) hm hrow (H3.out.ext HE2.out)
    rw [← Hfg.out, Hr.out, Hfg.out, Hgl.out] at HW
    refine HW.mono ?_
    rintro e w3 ⟨v, rfl, hown, hb3⟩
    obtain ⟨Ax, cx, rfl, hcx⟩ := hown.shape
    have HO := Lib.hid hown.bs
    have HE3 := Lib.hid (HE2.out.trans' hb3)
    have hc3 := (R1b.out.ext hb3).cell (i := 0) rfl
    have R2c := Lib.hid (show w3.heap[B + 1]? = some (.cells _ 24 (0, 0)) from R2b.out.ext hb3)
    clear hown hb3 hrow HW hc1 hc2
    go_wp2_with (refine wpList_store_rec rfl 24 _ _ rfl (B + 1) _ rfl rfl 24 _ R2c.out (by kernel_rfl) rfl (by simp [Value.oneCell']) w HE3.out (by omega) ?_; intro w4 hb4 hblk4 hg4 hs4; have HB4 := Lib.hid hb4; have HK4 := Lib.hid hblk4; have HG4 := Lib.hid hg4; clear hb4 hblk4 hg4 hs4)
    refine bodyPost_ret (v := .tuple #[.agg #[.slice A a.length c, .slice Ax r.1.length cx], .int .i64 r.2]) ?_ rfl ?_
    · exact results2 (fn := Try.f26) (p := 6) (q := 7) rfl _ (B + 1) (by rfl) HK4.out rfl
    have hn : ∀ u ∈ (#[.slice none 0 0, .slice none 0 0] : Array Value).toList, ∀ x, u ≠ B8 x := noBy2 (by intro y e; cases e) (by intro y e; cases e)
    exact ⟨_, _, rfl, Bs.rec ⟨A, c, rfl, hca, H1.out.ext HE3.out⟩ R2c.out hn HG4.out, HO.out.rec R2c.out hn HG4.out, HB4.out⟩
  | false =>
    rw [show Disk.second (some (false, f)) = false from rfl]
    simp only [Bool.false_eq_true, if_false] at hglg HG
    have hglc : gl ≤ c := by omega
    have hgli : (gl : Int) ≤ (c : Int) := by omega
    go_wp2_with (refine wpList_store_named rfl 57 _ _ rfl w1.heap.size _ rfl rfl 57 _ (heap_alloc_new _ _) (by kernel_rfl) rfl (by simp [Value.oneCell']) w1 (Ext.a1 _ _) (Nat.le_refl _) ?_; intro w2 hb2 hblk2 hs2 ho2; have R1b := Lib.hid (R1a.out.ext hb2); have R2b := Lib.hid (R2a.out.ext hb2); have hc1 := R1b.out.cell (i := 0) rfl; have hc2 := (show Rec w2 _ 57 _ from hblk2).cell (i := 2) rfl; have HE2 := Lib.hid (HE1.out.trans' hb2); clear hb2 hblk2 hs2 ho2)
    have hrow : Row w2 A (fg.map B8) := by rw [HG.out.1, List.map_take]; exact (H1.out.ext HE2.out).take gl
    have HW := refWrite_any A A2 c c2 fg m tear w2 ht1 ht2 (by rw [Hgl.out]; omega) hm hrow (H3.out.ext HE2.out)
    rw [← Hfg.out, Hr.out, Hfg.out, Hgl.out] at HW
    refine HW.mono ?_
    rintro e w3 ⟨v, rfl, hown, hb3⟩
    obtain ⟨Ax, cx, rfl, hcx⟩ := hown.shape
    have HO := Lib.hid hown.bs
    have HE3 := Lib.hid (HE2.out.trans' hb3)
    have hc3 := (R1b.out.ext hb3).cell (i := 1) rfl
    have R2c := Lib.hid (show w3.heap[B + 1]? = some (.cells _ 24 (0, 0)) from R2b.out.ext hb3)
    clear hown hb3 hrow HW hc1 hc2
    go_wp2_with (refine wpList_store_rec rfl 24 _ _ rfl (B + 1) _ rfl rfl 24 _ R2c.out (by kernel_rfl) rfl (by simp [Value.oneCell']) w HE3.out (by omega) ?_; intro w4 hb4 hblk4 hg4 hs4; have HB4 := Lib.hid hb4; have HK4 := Lib.hid hblk4; have HG4 := Lib.hid hg4; clear hb4 hblk4 hg4 hs4)
    refine bodyPost_ret (v := .tuple #[.agg #[.slice Ax r.1.length cx, .slice A' b.length c'], .int .i64 r.2]) ?_ rfl ?_
    · exact results2 (fn := Try.f26) (p := 6) (q := 7) rfl _ (B + 1) (by rfl) HK4.out rfl
    have hn : ∀ u ∈ (#[.slice none 0 0, .slice none 0 0] : Array Value).toList, ∀ x, u ≠ B8 x := noBy2 (by intro y e; cases e) (by intro y e; cases e)
    exact ⟨_, _, rfl, HO.out.rec R2c.out hn HG4.out, Bs.rec ⟨A', c', rfl, hcb, H2.out.ext HE3.out⟩ R2c.out hn HG4.out, HB4.out⟩

end Go.Proofs.Ytjcngipaeoegcaa

namespace Go.Proofs.Ytjcngipaeoegcaa

namespace Frame
theorem all_own (b : List UInt8) : b = frames (all b).1 ++ (all b).2 ∧ ∀ p ∈ (all b).1, p.length ≤ 100000 := by
  have : ∀ n b, b = frames (allN n b).1 ++ (allN n b).2 ∧ ∀ p ∈ (allN n b).1, p.length ≤ 100000 := by
    intro n
    induction n with
    | zero => intro b; exact ⟨rfl, by intro p hp; cases hp⟩
    | succ n ih =>
      intro b
      unfold allN
      cases ht : take b with
      | none => exact ⟨rfl, by intro p hp; cases hp⟩
      | some pr =>
        obtain ⟨p, r⟩ := pr
        obtain ⟨h1, h2⟩ := take_own _ _ _ ht
        obtain ⟨h3, h4⟩ := ih r
        refine ⟨?_, ?_⟩
        · simp only
          rw [show frames (p :: (allN n r).1) = frame p ++ frames (allN n r).1 by simp [frames], List.append_assoc, ← h3]
          exact h1
        · intro q hq
          rcases List.mem_cons.1 hq with rfl | hq
          · exact h2
          · exact h4 q hq
  exact this _ _
theorem all_stop {r : List UInt8} (h : take r = none) : all r = ([], r) := all_none h
end Frame

namespace Disk
theorem texts_frames (rs : List (List UInt8)) : (texts rs).length ≤ (Frame.frames rs).length := by
  induction rs with
  | nil => exact Nat.le_refl _
  | cons r rs ih =>
    rw [show texts (r :: rs) = Pack.text [] r ++ texts rs by simp [texts], show Frame.frames (r :: rs) = Frame.frame r ++ Frame.frames rs by simp [Frame.frames], List.length_append, List.length_append, Frame.frame_length]
    have : (Pack.text [] r).length = Pack.need r.length + 1 + r.length := by simp [Pack.text, Pack.one_length]
    omega
theorem texts_append (l m : List (List UInt8)) : texts (l ++ m) = texts l ++ texts m := by simp [texts]

/-- What stands in a file. -/
theorem file_own {x : List UInt8} {f : File} (h : file x = some f) : ∃ rs t r, parse (head f.gen rs) = some (f.gen, rs) ∧ (head f.gen rs).length ≤ 100000 ∧ (∀ p ∈ t, p.length ≤ 100000) ∧ f.recs = rs ++ t ∧ f.good = Frame.frames (head f.gen rs :: t) ∧ x = f.good ++ r ∧ Frame.take r = none := by
  obtain ⟨h1, h2⟩ := Frame.all_own x
  have h3 := Frame.all_last x
  unfold file at h
  split at h
  · cases h
  · rename_i hd t hall
    cases hp : parse hd with
    | none => rw [hp] at h; cases h
    | some q =>
      obtain ⟨g, rs⟩ := q
      rw [hp] at h
      injection h with h
      subst h
      have hh := (parse_own _ _ _ hp).1
      rw [hall] at h1 h2
      have hl := congrArg List.length h1
      rw [List.length_append] at hl
      have hg : List.take (x.length - (Frame.all x).2.length) x = Frame.frames (hd :: t) := by
        rw [show x.length - (Frame.all x).2.length = (Frame.frames (hd :: t)).length by omega]
        conv => lhs; rw [h1]
        exact List.take_left
      refine ⟨rs, t, (Frame.all x).2, by rw [← hh]; exact hp, by rw [← hh]; exact h2 hd (by simp), fun p hq => h2 p (by simp [hq]), rfl, by rw [← hh]; exact hg, ?_, h3⟩
      simp only [hg]
      exact h1
theorem file_make (g : Nat) (rs t : List (List UInt8)) (r : List UInt8) (h1 : parse (head g rs) = some (g, rs)) (h2 : (head g rs).length ≤ 100000) (h3 : ∀ p ∈ t, p.length ≤ 100000) (h4 : Frame.take r = none) :
    file (Frame.frames (head g rs :: t) ++ r) = some ⟨g, rs ++ t, Frame.frames (head g rs :: t)⟩ := by
  have ha := Frame.all_frames (head g rs :: t) r (fun p hp => (List.mem_cons.1 hp).elim (fun e => e ▸ h2) (h3 p))
  rw [Frame.all_stop h4] at ha
  simp only [List.append_nil] at ha
  have := file_ok (x := Frame.frames (head g rs :: t) ++ r) (hd := head g rs) (t := t) (by rw [ha]) h1
  rw [this, ha]
  simp
theorem take_nil : Frame.take [] = none := by
  cases h : Frame.take [] with
  | none => rfl
  | some p =>
    obtain ⟨p, r⟩ := p
    have := Frame.take_lt h
    simp at this
theorem file_texts {x : List UInt8} {f : File} (h : file x = some f) : (texts f.recs).length ≤ x.length := by
  obtain ⟨rs, t, r, _, _, _, h4, h5, h6, _⟩ := file_own h
  rw [h4, h6, h5, texts_append]
  have h7 := texts_frames t
  have h8 := head_length f.gen rs
  rw [show Frame.frames (head f.gen rs :: t) = Frame.frame (head f.gen rs) ++ Frame.frames t by simp [Frame.frames]]
  simp only [List.length_append, Frame.frame_length]
  omega
/-- A file that is cut to its good bytes, with what is no frame behind. -/
theorem file_cut {x r : List UInt8} {f : File} (h : file x = some f) (hr : Frame.take r = none) : file (f.good ++ r) = some f := by
  obtain ⟨rs, t, _, h1, h2, h3, h4, h5, _, _⟩ := file_own h
  rw [h5, file_make _ _ _ _ h1 h2 h3 hr, ← h4, ← h5]
theorem file_same {x : List UInt8} {f : File} (h : file x = some f) : file f.good = some f := by
  have := file_cut h take_nil
  rwa [List.append_nil] at this
theorem file_more {x : List UInt8} {f : File} (h : file x = some f) (p : List UInt8) (hp : p.length ≤ 100000) : file (f.good ++ Frame.frame p) = some ⟨f.gen, f.recs ++ [p], f.good ++ Frame.frame p⟩ := by
  obtain ⟨rs, t, _, h1, h2, h3, h4, h5, _, _⟩ := file_own h
  have h6 : f.good ++ Frame.frame p = Frame.frames (head f.gen rs :: (t ++ [p])) ++ [] := by
    rw [h5, List.append_nil, ← Frame.frames_snoc]
    rfl
  rw [h6, file_make _ _ _ _ h1 h2 (fun q hq => (List.mem_append.1 hq).elim (h3 q) (fun hq => by simp at hq; subst hq; exact hp)) take_nil, List.append_nil, h4, List.append_assoc]
theorem file_new (g : Nat) (rs : List (List UInt8)) (hg : 1 ≤ g ∧ g ≤ 1000000) (h : (head g rs).length ≤ 100000) : file (Frame.frame (head g rs)) = some ⟨g, rs, Frame.frame (head g rs)⟩ := by
  have hl := head_length g rs
  have hc := texts_count rs
  have hp := parse_head g rs hg (by omega) (fun r hr => by have := texts_mem hr; omega)
  have := file_make g rs [] [] hp h (by simp) take_nil
  rw [List.append_nil, List.append_nil, show Frame.frames [head g rs] = Frame.frame (head g rs) by simp [Frame.frames]] at this
  exact this
theorem file_none {r : List UInt8} (h : Frame.take r = none) : file r = none := file_nil (by rw [Frame.all_stop h])

/-- What Open, Append and Snap answer. -/
def opened (a b : List UInt8) : (List UInt8 × List UInt8) × List (List UInt8) × Int := match which a b with
  | none => ((a, b), [], 60)
  | some (s, f) => (put s a b f.good, f.recs, 0)
def append (a b p : List UInt8) (tear : Int) : (List UInt8 × List UInt8) × Int := match which a b with
  | none => ((a, b), 60)
  | some (s, f) => if 100000 < p.length then ((a, b), 60) else (put s a b (write f.good (Frame.frame p) tear).1, (write f.good (Frame.frame p) tear).2)
def snap (a b : List UInt8) (tear : Int) : (List UInt8 × List UInt8) × Int := match which a b with
  | none => ((a, b), 60)
  | some (s, f) => if f.gen = 1000000 then ((a, b), 10) else if 100000 < (head (f.gen + 1) f.recs).length then ((a, b), 60) else
      (put (!s) a b (write [] (Frame.frame (head (f.gen + 1) f.recs)) tear).1, (write [] (Frame.frame (head (f.gen + 1) f.recs)) tear).2)
def new : List UInt8 := Frame.frame (head 1 [])
end Disk

end Go.Proofs.Ytjcngipaeoegcaa

namespace Go.Proofs.Ytjcngipaeoegcaa
namespace Disk
theorem write_len (b m : List UInt8) (tear : Int) : (write b m tear).1.length ≤ b.length + m.length := by
  unfold write
  split
  · simp
  · simp only [List.length_append, List.length_take]; omega
theorem good_len {a b : List UInt8} {s : Bool} {f : File} (h : which a b = some (s, f)) : f.good.length ≤ max a.length b.length := by
  have := (file_good (which_file h)).2
  cases s <;> simp at this <;> omega
theorem put_len (s : Bool) (a b x : List UInt8) : (put s a b x).1.length ≤ max a.length x.length ∧ (put s a b x).2.length ≤ max b.length x.length := by
  unfold put
  cases s <;> simp <;> omega
theorem opened_len (a b : List UInt8) (n : Nat) (ha : a.length ≤ n) (hb : b.length ≤ n) : (opened a b).1.1.length ≤ n ∧ (opened a b).1.2.length ≤ n := by
  unfold opened
  cases h : which a b with
  | none => exact ⟨ha, hb⟩
  | some q =>
    obtain ⟨s, f⟩ := q
    have h1 := good_len h
    have h2 := put_len s a b f.good
    exact ⟨by simp only; omega, by simp only; omega⟩
theorem frame_len (p : List UInt8) (h : p.length ≤ 100000) : (Frame.frame p).length ≤ 100100 := by
  rw [Frame.frame_length]
  have := Pack.need_le8 p.length (by omega)
  omega
theorem append_len (a b p : List UInt8) (tear : Int) (n : Nat) (ha : a.length ≤ n) (hb : b.length ≤ n) : (append a b p tear).1.1.length ≤ n + 100100 ∧ (append a b p tear).1.2.length ≤ n + 100100 := by
  unfold append
  cases h : which a b with
  | none => exact ⟨by simp only; omega, by simp only; omega⟩
  | some q =>
    obtain ⟨s, f⟩ := q
    simp only
    by_cases hp : 100000 < p.length
    · rw [if_pos hp]
      exact ⟨by simp only; omega, by simp only; omega⟩
    · rw [if_neg hp]
      have h1 := good_len h
      have h3 := write_len f.good (Frame.frame p) tear
      have h4 := frame_len p (by omega)
      have h2 := put_len s a b (write f.good (Frame.frame p) tear).1
      exact ⟨by simp only; omega, by simp only; omega⟩
theorem snap_len (a b : List UInt8) (tear : Int) (n : Nat) (ha : a.length ≤ n) (hb : b.length ≤ n) : (snap a b tear).1.1.length ≤ n + 100100 ∧ (snap a b tear).1.2.length ≤ n + 100100 := by
  unfold snap
  cases h : which a b with
  | none => exact ⟨by simp only; omega, by simp only; omega⟩
  | some q =>
    obtain ⟨s, f⟩ := q
    simp only
    by_cases hg : f.gen = 1000000
    · rw [if_pos hg]
      exact ⟨by simp only; omega, by simp only; omega⟩
    · rw [if_neg hg]
      by_cases hp : 100000 < (head (f.gen + 1) f.recs).length
      · rw [if_pos hp]
        exact ⟨by simp only; omega, by simp only; omega⟩
      · rw [if_neg hp]
        have h3 := write_len [] (Frame.frame (head (f.gen + 1) f.recs)) tear
        have h4 := frame_len (head (f.gen + 1) f.recs) (by omega)
        have h2 := put_len (!s) a b (write [] (Frame.frame (head (f.gen + 1) f.recs)) tear).1
        simp only [List.length_nil] at h3
        exact ⟨by simp only; omega, by simp only; omega⟩
theorem opened_recs (a b : List UInt8) (n : Nat) (ha : a.length ≤ n) (hb : b.length ≤ n) : (opened a b).2.1.length ≤ n := by
  unfold opened
  cases h : which a b with
  | none => simp
  | some q =>
    obtain ⟨s, f⟩ := q
    have h1 := file_texts (which_file h)
    have h2 := texts_count f.recs
    cases s <;> simp at h1 <;> simp only <;> omega

theorem which_congr {a b a' b' : List UInt8} (h1 : file a = file a') (h2 : file b = file b') : which a b = which a' b' := by unfold which; rw [h1, h2]
/-- The disk that Open answers has the same files. -/
theorem files_same {a b : List UInt8} {s : Bool} {f : File} (h : which a b = some (s, f)) : file (put s a b f.good).1 = file a ∧ file (put s a b f.good).2 = file b := by
  have h1 := which_file h
  have h2 := file_same h1
  cases s <;> simp [put] at * <;> rw [h2, h1]
theorem put_put (s : Bool) (a b x y : List UInt8) : put s (put s a b x).1 (put s a b x).2 y = put s a b y := by cases s <;> rfl
theorem put_not_files (s : Bool) (a b x r : List UInt8) (h : file x = file (if s then b else a)) : file (put (!s) (put s a b x).1 (put s a b x).2 r).1 = file (put (!s) a b r).1 ∧ file (put (!s) (put s a b x).1 (put s a b x).2 r).2 = file (put (!s) a b r).2 := by
  cases s <;> simp [put] at * <;> exact h
theorem opened_which {a b a' b' : List UInt8} (h : which a b = which a' b') : (opened a b).2 = (opened a' b').2 := by
  unfold opened
  rw [h]
  cases which a' b' with
  | none => rfl
  | some q => rfl
/-- A disk that is laid anew without a tear opens as it is. -/
theorem opened_new {a b : List UInt8} {s : Bool} {f : File} (hf : file (if s then b else a) = some f) (hg : f.gen < 1000000) (hl : (head (f.gen + 1) f.recs).length ≤ 100000) :
    opened (put (!s) a b (Frame.frame (head (f.gen + 1) f.recs))).1 (put (!s) a b (Frame.frame (head (f.gen + 1) f.recs))).2 = (put (!s) a b (Frame.frame (head (f.gen + 1) f.recs)), f.recs, 0) := by
  have h1 := file_new (f.gen + 1) f.recs (by omega) hl
  cases s with
  | true =>
    simp only [if_true] at hf
    simp only [Bool.not_true, put, Bool.false_eq_true, if_false]
    unfold opened which
    rw [h1, hf]
    simp only
    rw [if_neg (by omega)]
    rfl
  | false =>
    simp only [Bool.false_eq_true, if_false] at hf
    simp only [Bool.not_false, put, if_true]
    unfold opened which
    rw [h1, hf]
    simp only
    rw [if_pos (by omega)]
    rfl

theorem cuts_none {a b : List UInt8} (h : which a b = none) (p : List UInt8) (tear : Int) : opened a b = ((a, b), [], 60) ∧ append a b p tear = ((a, b), 60) ∧ snap a b tear = ((a, b), 60) := by
  refine ⟨?_, ?_, ?_⟩
  · unfold opened; rw [h]
  · unfold append; rw [h]
  · unfold snap; rw [h]
theorem write_zero {b m : List UInt8} {tear : Int} (h : (write b m tear).2 = 0) : (write b m tear).1 = b ++ m := by
  unfold write at *
  split at h
  · rename_i h0; rw [if_pos h0]
  · simp at h
theorem cuts_some {a b : List UInt8} {s : Bool} {f : File} (h : which a b = some (s, f)) (p : List UInt8) (hp : p.length ≤ 100000) (tear : Int) :
    (opened a b).2.2 = 0 ∧ append (opened a b).1.1 (opened a b).1.2 p tear = append a b p tear
    ∧ (snap (opened a b).1.1 (opened a b).1.2 tear).2 = (snap a b tear).2
    ∧ (opened (snap (opened a b).1.1 (opened a b).1.2 tear).1.1 (snap (opened a b).1.1 (opened a b).1.2 tear).1.2).2 = (opened (snap a b tear).1.1 (snap a b tear).1.2).2
    ∧ ((snap a b tear).2 = 0 → (opened (snap a b tear).1.1 (snap a b tear).1.2).1 = (snap a b tear).1
        ∧ (opened (snap (opened a b).1.1 (opened a b).1.2 tear).1.1 (snap (opened a b).1.1 (opened a b).1.2 tear).1.2).1 = (snap (opened a b).1.1 (opened a b).1.2 tear).1) := by
  have hf := files_same h
  have hwf := which_file h
  have hw : which (put s a b f.good).1 (put s a b f.good).2 = some (s, f) := (which_congr hf.1 hf.2).trans h
  have hwf2 := which_file hw
  have ho : opened a b = (put s a b f.good, f.recs, 0) := by unfold opened; rw [h]
  have hg := file_gen hwf
  have hs1 : file f.good = file (if s then b else a) := (file_same hwf).trans hwf.symm
  rw [ho]
  refine ⟨rfl, ?_, ?_⟩
  · unfold append
    rw [hw, h]
    simp only
    rw [if_neg (by omega), if_neg (by omega), put_put]
  · by_cases hm : f.gen = 1000000
    · have e1 : snap a b tear = ((a, b), 10) := by unfold snap; rw [h]; simp only; rw [if_pos hm]
      have e2 : snap (put s a b f.good).1 (put s a b f.good).2 tear = (put s a b f.good, 10) := by unfold snap; rw [hw]; simp only; rw [if_pos hm]
      simp only [e1, e2]
      exact ⟨trivial, opened_which (hw.trans h.symm), fun e => by simp at e⟩
    · by_cases hl : 100000 < (head (f.gen + 1) f.recs).length
      · have e1 : snap a b tear = ((a, b), 60) := by unfold snap; rw [h]; simp only; rw [if_neg hm, if_pos hl]
        have e2 : snap (put s a b f.good).1 (put s a b f.good).2 tear = (put s a b f.good, 60) := by unfold snap; rw [hw]; simp only; rw [if_neg hm, if_pos hl]
        simp only [e1, e2]
        exact ⟨trivial, opened_which (hw.trans h.symm), fun e => by simp at e⟩
      · have e1 : snap a b tear = (put (!s) a b (write [] (Frame.frame (head (f.gen + 1) f.recs)) tear).1, (write [] (Frame.frame (head (f.gen + 1) f.recs)) tear).2) := by unfold snap; rw [h]; simp only; rw [if_neg hm, if_neg hl]
        have e2 : snap (put s a b f.good).1 (put s a b f.good).2 tear = (put (!s) (put s a b f.good).1 (put s a b f.good).2 (write [] (Frame.frame (head (f.gen + 1) f.recs)) tear).1, (write [] (Frame.frame (head (f.gen + 1) f.recs)) tear).2) := by unfold snap; rw [hw]; simp only; rw [if_neg hm, if_neg hl]
        rw [e1, e2]
        have hpf := put_not_files s a b f.good (write [] (Frame.frame (head (f.gen + 1) f.recs)) tear).1 hs1
        refine ⟨rfl, opened_which (which_congr hpf.1 hpf.2), fun e => ?_⟩
        have hz := write_zero e
        simp only at hz ⊢
        rw [hz, List.nil_append]
        refine ⟨?_, ?_⟩
        · rw [opened_new hwf (by omega) (by omega)]
        · rw [opened_new (a := (put s a b f.good).1) (b := (put s a b f.good).2) hwf2 (by omega) (by omega)]
end Disk
end Go.Proofs.Ytjcngipaeoegcaa
