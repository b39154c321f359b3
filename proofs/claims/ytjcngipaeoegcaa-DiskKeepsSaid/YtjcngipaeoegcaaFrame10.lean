/-
  Frames: All.
-/
import Derived.Test.YtjcngipaeoegcaaFrame9
import Derived.Test.YtjcngipaeoegcaaLists
namespace Go.Proofs.Ytjcngipaeoegcaa
open Go.RowKit
attribute [local go_sem] Oper.semAt_some

/-- What stands between two rounds: s is left. -/
def AllInv (B : Nat) (w0 : World) (A : Option Addr) (c : Nat) (b : List UInt8) (rec : Obj) (s : List UInt8) (W : World) : Prop :=
  ∃ (ps : List (List UInt8)) (vs : List Value) (Av : Option Addr) (cv : Nat), Frame.all b = (ps ++ (Frame.all s).1, (Frame.all s).2) ∧ s.length ≤ b.length ∧
    Boxed W B 22 (.slice A b.length c) ∧ Boxed W (B + 1) 27 (.slice Av ps.length cv) ∧ Boxed W (B + 2) 3 (.int .i64 ((b.length : Int) - (s.length : Int))) ∧
    W.ownsRow (B + 4) 22 1 (.slice Av ps.length cv) ps.length vs ∧ Elems W B vs ps ∧
    W.heap[B + 4]? = some (.deferred (some [])) ∧ W.heap[B + 5]? = some rec ∧ B = w0.heap.size ∧ Ext w0 W

theorem AllInv.ext {B : Nat} {w0 : World} {A : Option Addr} {c : Nat} {b : List UInt8} {rec : Obj} {s : List UInt8} {W W' : World} (h : AllInv B w0 A c b rec s W) (he : Ext W W') : AllInv B w0 A c b rec s W' := by
  obtain ⟨ps, vs, Av, cv, h1, h2, h3, h4, h5, h6, h7, h8, h9, h10, h11⟩ := h
  exact ⟨ps, vs, Av, cv, h1, h2, Boxed.ext h3 he, Boxed.ext h4 he, Boxed.ext h5 he, ownsRow_ext h6 he, h7.ext he, (he.block _ (lt_of_block h8)).trans h8, (he.block _ (lt_of_block h9)).trans h9, h10, h11.trans' he⟩
theorem AllInv.at3 {B : Nat} {w0 : World} {A : Option Addr} {c : Nat} {b : List UInt8} {rec : Obj} {s : List UInt8} {W : World} {v : Value} (h : AllInv B w0 A c b rec s W) (hb : Boxed W (B + 3) 22 v) (u : Value) : AllInv B w0 A c b rec s (W.setCell ⟨B + 3, 0, none⟩ u) := by
  obtain ⟨ps, vs, Av, cv, h1, h2, h3, h4, h5, h6, h7, h8, h9, h10, h11⟩ := h
  have hg := grownBy_setCell' W (B + 3) u
  have ht : Turns B W (some (B + 3)) := Turns.box hb (by decide) (by omega)
  refine ⟨ps, vs, Av, cv, h1, h2, Boxed.turned h3 hg (by simp), Boxed.turned h4 hg (by simp), Boxed.turned h5 hg (by simp), h6.kept hg ?_, h7.turned hg ht, (hg.block _ (lt_of_block h8) (by simp)).trans h8, (hg.block _ (lt_of_block h9) (by simp)).trans h9, h10, ?_⟩
  · right
    intro e
    have := (World.ownsRow.lt h6 (B + 3) e).1
    omega
  · exact Below.grown h11 hg (by rw [← h10]; have := lt_of_block h3; omega) (fun k e => by injection e with e; omega)

/-- What a round's region leaves alone. -/
def AllKeep (B : Nat) (va vn : Value) (lp : Obj) (rv : Value) (p r : List UInt8) (pv : Value) (vs : List Value) (ps : List (List UInt8)) (w : World) : Prop :=
  Boxed w B 22 va ∧ Boxed w (B + 3) 22 vn ∧ w.heap[B + 4]? = some (.deferred (some [])) ∧ w.heap[B + 5]? = some lp ∧ Own w 0 rv r ∧ Own w 0 pv p ∧ Elems w B vs ps
theorem AllKeep.ext {B : Nat} {va vn : Value} {lp : Obj} {rv pv : Value} {p r : List UInt8} {vs : List Value} {ps : List (List UInt8)} {w w' : World} (h : AllKeep B va vn lp rv p r pv vs ps w) (he : Ext w w') : AllKeep B va vn lp rv p r pv vs ps w' := by
  obtain ⟨h1, h2, h3, h4, h5, h6, h7⟩ := h
  exact ⟨Boxed.ext h1 he, Boxed.ext h2 he, (he.block _ (lt_of_block h3)).trans h3, (he.block _ (lt_of_block h4)).trans h4, h5.ext he, h6.ext he, h7.ext he⟩
theorem AllKeep.turned {B : Nat} {va vn : Value} {lp : Obj} {rv pv : Value} {p r : List UInt8} {vs : List Value} {ps : List (List UInt8)} {w w' : World} {row : Option Nat} (h : AllKeep B va vn lp rv p r pv vs ps w) (hg : w.grownBy w' row) (ht : Turns B w row)
    (h0 : row ≠ some B) (h3' : row ≠ some (B + 3)) (h4' : row ≠ some (B + 4)) (h5' : row ≠ some (B + 5)) : AllKeep B va vn lp rv p r pv vs ps w' := by
  obtain ⟨h1, h2, h3, h4, h5, h6, h7⟩ := h
  exact ⟨Boxed.turned h1 hg h0, Boxed.turned h2 hg h3', (hg.block _ (lt_of_block h3) (fun e => h4' e.symm)).trans h3, (hg.block _ (lt_of_block h4) (fun e => h5' e.symm)).trans h4, h5.turned hg ht, h6.turned hg ht, h7.turned hg ht⟩
/-- Behind the first store. -/
def AllOut (B : Nat) (k : Nat) (xs : List Value) (T : World → Prop) : Say := fun w _ => T w ∧ (∃ m, Boxed w (B + 2) 3 (.int .i64 m)) ∧ ∃ Av cv, Boxed w (B + 1) 27 (.slice Av k cv) ∧ w.ownsRow (B + 4) 22 1 (.slice Av k cv) k xs
/-- Behind the second. -/
def AllNum (B : Nat) (m : Int) : Say := fun w _ => Boxed w (B + 2) 3 (.int .i64 m)

theorem info22 : ∃ i, Try.prog.info? 22 = some i ∧ i.zero = some (.slice none 0 0) ∧ i.size = 1 ∧ i.bytes = 24 :=
  info_parts (show (Try.prog.info? 22).map (fun i => (i.zero, i.size, i.bytes)) = some (some (.slice none 0 0), 1, 24) by kernel_rfl)
theorem rt52 : RowTy Try.prog 27 22 := ⟨Try.underlying27, by obtain ⟨i, hi, hz, hs, hb⟩ := info22; exact ⟨i, _, _, hi, hz, hs, hb, rfl, by decide⟩⟩

theorem results39 (tmps : Array Value) (B : Nat) (h2 : tmps.getD 2 undef = .pointer (some ⟨B + 1, 0, none⟩)) (h3 : tmps.getD 3 undef = .pointer (some ⟨B + 2, 0, none⟩)) {w : World} {X Y : Value}
    (hX : w.cell? ⟨B + 1, 0, none⟩ = some X) (hY : w.cell? ⟨B + 2, 0, none⟩ = some Y) : (results Try.f21 tmps).run Try.prog w = .ok (.tuple #[X, Y]) w := by
  have h2' : tmps[2]?.getD undef = .pointer (some ⟨B + 1, 0, none⟩) := by simpa using h2
  have h3' : tmps[3]?.getD undef = .pointer (some ⟨B + 2, 0, none⟩) := by simpa using h3
  simp [results, h2', h3', asAddr, loadVar, hX, hY, Sem.run_bind, Result.andThen]

/-- What stands behind the loop. -/
def AllEnd (B : Nat) (v : Value) (m : Int) (k : Nat) (vs : List Value) (ps : List (List UInt8)) (w : World) : Prop :=
  Boxed w (B + 1) 27 v ∧ Boxed w (B + 2) 3 (.int .i64 m) ∧ w.ownsRow (B + 4) 22 1 v k vs ∧ Elems w B vs ps ∧ w.heap[B + 4]? = some (.deferred (some []))
def AllEndSay (B : Nat) (v : Value) (m : Int) (k : Nat) (vs : List Value) (ps : List (List UInt8)) : Say := fun w _ => AllEnd B v m k vs ps w
theorem AllEnd.ext {B : Nat} {v : Value} {m : Int} {k : Nat} {vs : List Value} {ps : List (List UInt8)} {w w' : World} (h : AllEnd B v m k vs ps w) (he : Ext w w') : AllEnd B v m k vs ps w' :=
  ⟨Boxed.ext h.1 he, Boxed.ext h.2.1 he, ownsRow_ext h.2.2.1 he, h.2.2.2.1.ext he, (he.block _ (lt_of_block h.2.2.2.2)).trans h.2.2.2.2⟩
theorem AllEnd.set1 {B : Nat} {v : Value} {m : Int} {k : Nat} {vs : List Value} {ps : List (List UInt8)} {w : World} (h : AllEnd B v m k vs ps w) : AllEnd B v m k vs ps (w.setCell ⟨B + 1, 0, none⟩ v) := by
  have hg := grownBy_setCell' w (B + 1) v
  have ht : Turns B w (some (B + 1)) := Turns.box h.1 (by decide) (by omega)
  exact ⟨h.1.set _, Boxed.turned h.2.1 hg (by simp), h.2.2.1.kept hg (.inr (row_ne_low h.2.2.1 (by omega))), h.2.2.2.1.turned hg ht, (hg.block _ (lt_of_block h.2.2.2.2) (by simp)).trans h.2.2.2.2⟩
theorem AllEnd.set2 {B : Nat} {v : Value} {m : Int} {k : Nat} {vs : List Value} {ps : List (List UInt8)} {w : World} (h : AllEnd B v m k vs ps w) : AllEnd B v m k vs ps (w.setCell ⟨B + 2, 0, none⟩ (.int .i64 m)) := by
  have hg := grownBy_setCell' w (B + 2) (.int .i64 m)
  have ht : Turns B w (some (B + 2)) := Turns.box h.2.1 (by decide) (by omega)
  exact ⟨Boxed.turned h.1 hg (by simp), h.2.1.set _, h.2.2.1.kept hg (.inr (row_ne_low h.2.2.1 (by omega))), h.2.2.2.1.turned hg ht, (hg.block _ (lt_of_block h.2.2.2.2) (by simp)).trans h.2.2.2.2⟩

set_option maxHeartbeats 4000000 in
set_option maxRecDepth 100000 in
theorem fall_any (A : Option Addr) (c : Nat) (b : List UInt8) (w : World) (hlc : b.length ≤ c) (hb : b.length ≤ 100000000) (hr : Row w A (b.map B8)) :
    Calls Try.prog 21 #[.slice A b.length c] w fun e w' => ∃ v, e = .returned (.tuple #[v, .int .i64 ((b.length : Int) - ((Frame.all b).2.length : Int))]) ∧ OwnL w' w.heap.size w.heap.size v (Frame.all b).1 ∧ Ext w w' := by
  have HR := Lib.hid hr
  clear hr
  obtain ⟨B, hBw⟩ : ∃ B, w.heap.size = B := ⟨_, rfl⟩
  refine (callsIn_wide (n := 9)).1 (callsIn_of_wp_marks Try.func21 rfl trivial ?_ rfl)
  simp only [Try.ntmps21, List.size_toArray, List.length_cons, List.length_nil, Nat.reduceAdd, Nat.reduceSub, Array.replicate_succ, Array.replicate_zero, List.push_toArray, List.append_toArray, List.nil_append, List.cons_append]
  gi_wp2_with fail
  refine ⟨trivial, (callsIn_wide.2 (frames_any _ _ _ _)).mono ?_⟩
  rintro e w' ⟨rfl, rfl⟩
  gi_wp2_with fail
  obtain ⟨W0, hW0⟩ : ∃ W0, (((w.alloc (.cells #[.slice A b.length c] 22)).alloc (.cells #[.slice none 0 0] 27)).alloc (.cells #[.int .i64 0] 3)).alloc (.cells #[.slice A b.length c] 22) = W0 := ⟨_, rfl⟩
  rw [hW0]
  have hs0 : W0.heap.size = B + 4 := by rw [← hW0]; simp [hBw]
  have b0 : Boxed W0 B 22 (.slice A b.length c) := by
    rw [← hW0, ← hBw]; exact (((Boxed.new w 22 _).alloc _).alloc _).alloc _
  have b1 : Boxed W0 (B + 1) 27 (.slice none 0 0) := by
    have h := Boxed.new (w.alloc (.cells #[.slice A b.length c] 22)) 27 (.slice none 0 0)
    rw [World.size_alloc, hBw] at h
    rw [← hW0]; exact (h.alloc _).alloc _
  have b2 : Boxed W0 (B + 2) 3 (.int .i64 0) := by
    have h := Boxed.new ((w.alloc (.cells #[.slice A b.length c] 22)).alloc (.cells #[.slice none 0 0] 27)) 3 (.int .i64 0)
    rw [World.size_alloc, World.size_alloc, hBw] at h
    rw [← hW0]; exact h.alloc _
  have b3 : Boxed W0 (B + 3) 22 (.slice A b.length c) := by
    have h := Boxed.new (((w.alloc (.cells #[.slice A b.length c] 22)).alloc (.cells #[.slice none 0 0] 27)).alloc (.cells #[.int .i64 0] 3)) 22 (.slice A b.length c)
    rw [World.size_alloc, World.size_alloc, World.size_alloc, hBw] at h
    rw [← hW0]; exact h
  have hE0 : Ext w W0 := by
    rw [← hW0]; exact (((Ext.a1 w _).alloc' _).alloc' _).alloc' _
  clear hW0
  simp only [show B + 1 + 1 = B + 2 from rfl, show B + 2 + 1 = B + 3 from rfl]
  refine range_enter rfl (enters_of Try.func49 (by kernel_rfl) rfl) ?_
  intro fn rec hrec
  rw [hs0] at hrec ⊢
  obtain ⟨W1, hW1⟩ : ∃ W1, (W0.alloc (.deferred (some []))).alloc (.loop (rec .ready none)) = W1 := ⟨_, rfl⟩
  rw [hW1]
  have hE1 : Ext W0 W1 := by rw [← hW1]; exact (Ext.a1 W0 _).alloc' _
  have hk1 : W1.heap[B + 4]? = some (.deferred (some [])) := by
    rw [← hW1, ← hs0]; exact (Below.heap_alloc _ _ _ (by simp)).trans (World.alloc_heap_new W0 _)
  have hl1 : W1.heap[B + 5]? = some (.loop (rec .ready none)) := by
    have := World.alloc_heap_new (W0.alloc (.deferred (some []))) (.loop (rec .ready none))
    rw [World.size_alloc, hs0] at this
    rw [← hW1]; exact this
  clear hW1
  have hinv : AllInv B w A c b (.loop (rec .ready none)) b W1 :=
    ⟨[], [], none, 0, by simp, Nat.le_refl _, Boxed.ext b0 hE1, Boxed.ext b1 hE1, by rw [Int.sub_self]; exact Boxed.ext b2 hE1, World.ownsRow_nil _ _ _ _, Elems.nil _ _, hk1, hl1, hBw.symm, hE0.trans' hE1⟩
  refine (frames1_any 8 (B + 5) (B + 3) (AllInv B w A c b (.loop (rec .ready none))) (fun s W W' h he => h.ext he) (fun s W v u h hv => h.at3 hv u) ?_ b (.slice A b.length c) hb W1 (Boxed.ext b3 hE1) ⟨A, c, rfl, hlc, HR.out.ext (hE0.trans' hE1)⟩ hinv).mono ?_
  · -- one round
    intro s p r pv rv W hJ ht hpv hrv ⟨vn, hvn⟩
    obtain ⟨ps, vs, Av, cv, h1, h2, h3, h4, h5, h6, h7, h8, h9, h10, h11⟩ := hJ
    refine yield_round h9 (by rw [hrec]; rfl) ?_
    rw [hrec]
    dsimp only
    obtain ⟨Ap, cp, hpe, hpc⟩ := hpv.shape
    subst hpe
    obtain ⟨Ar, cr, hre, hrc⟩ := hrv.shape
    subst hre
    have HPV := Lib.hid hpv
    have HRV := Lib.hid hrv
    clear hpv hrv h10
    gi_wp2_with fail
    obtain ⟨lp, hlp⟩ : ∃ lp : Loop, lp = { rec .ready none with state := .busy } := ⟨_, rfl⟩
    obtain ⟨W2, hW2⟩ : ∃ W2, W.putObj (B + 5) (.loop lp) = W2 := ⟨_, rfl⟩
    refine ⟨W2, by rw [← hW2, hlp]; exact run_beginRound h9 (by rw [hrec]), ?_⟩
    have hg2 : W.grownBy W2 (some (B + 5)) := by rw [← hW2]; exact grownBy_putObj' W _ _
    have ht2 : Turns B W (some (B + 5)) := Turns.other h9 rfl (by omega)
    have hl2 : W2.heap[B + 5]? = some (.loop lp) := by rw [← hW2]; exact World.putObj_heap_same (lt_of_block h9)
    have hK2 : AllKeep B (.slice A b.length c) vn (.loop lp) (.slice Ar r.length cr) p r (.slice Ap p.length cp) vs ps W2 :=
      ⟨Boxed.turned h3 hg2 (by simp), Boxed.turned hvn hg2 (by simp), (hg2.block _ (lt_of_block h8) (by simp)).trans h8, hl2, HRV.out.turned hg2 ht2, HPV.out.turned hg2 ht2, h7.turned hg2 ht2⟩
    have hbw : B ≤ W.heap.size := by have := lt_of_block h8; omega
    have hbel2 : Below B W W2 := Below.grown (Below.refl B W) hg2 hbw (fun k e => by injection e with e; omega)
    have hx1 : Boxed W2 (B + 1) 27 (.slice Av ps.length cv) := Boxed.turned h4 hg2 (by simp)
    have hx2 : Boxed W2 (B + 2) 3 (.int .i64 ((b.length : Int) - (s.length : Int))) := Boxed.turned h5 hg2 (by simp)
    have hx3 : W2.ownsRow (B + 4) 22 1 (.slice Av ps.length cv) ps.length vs := h6.kept hg2 (.inr (row_ne_other h6 h9 rfl))
    have hbw2 : B ≤ W2.heap.size := Nat.le_trans hbw hg2.size
    have hlt := Frame.take_lt ht
    have hmany : ps.length + 1 ≤ 100000000000 := by
      have := (Frame.all_few b).1
      rw [h1] at this
      simp only [List.length_append] at this
      omega
    obtain ⟨m9, Hm9⟩ : ∃ m9 : Nat, Hid (m9 = b.length - r.length) := ⟨_, Lib.hid rfl⟩
    have hsub : (b.length : Int) - (r.length : Int) = (m9 : Int) := by rw [Hm9.out]; omega
    have hwm := wrap_nat m9 (by rw [Hm9.out]; omega)
    have H1 := Lib.hid h1
    have H11 := Lib.hid (show Below B w W by rw [← hBw]; exact h11)
    have HV := Lib.hid hvn
    have HT := Lib.hid ht
    have HL := Lib.hid (show r.length ≤ b.length by omega)
    have HVL := Lib.hid (show vs.length = ps.length by have := h6.1; omega)
    clear hW2 h1 h2 h3 h4 h5 h6 h7 h8 h9 h11 hvn ht hg2 ht2 hl2 hbw hlt
    refine wpIn_block ?_
    apply wpIn_round_region_gen (B + 5) _ (B) 9 (hbw2) (by kernel_rfl) (by kernel_rfl) (by kernel_rfl) (by kernel_rfl) (by rintro ⟨_, _, hq⟩; exact hq)
      [Is (.slice Av ps.length cv), Is (.slice Ap p.length cp), fun w v => ∃ a, v = .slice (some a) 1 1 ∧ w.cell? a = some (.slice Ap p.length cp), fun w v => ∃ A c, v = .slice A (ps.length + 1) c ∧ w.ownsRow (B + 4) 22 1 (.slice A (ps.length + 1) c) (ps.length + 1) (vs ++ [Value.slice Ap p.length cp]), Is (.slice A b.length c), Is (.int .i64 (b.length : Int)), Is (.slice Ar r.length cr), Is (.int .i64 (r.length : Int)), Is (.int .i64 (m9 : Int)), AllOut B (ps.length + 1) (vs ++ [Value.slice Ap p.length cp]) (AllKeep B (.slice A b.length c) vn (.loop lp) (.slice Ar r.length cr) p r (.slice Ap p.length cp) vs ps), AllNum B (m9 : Int)] (fun i w => (i = 0 → Boxed w (B + 1) 27 (.slice Av ps.length cv)) ∧ (i = 3 → w.ownsRow (B + 4) 22 1 (.slice Av ps.length cv) ps.length vs ∧ AllKeep B (.slice A b.length c) vn (.loop lp) (.slice Ar r.length cr) p r (.slice Ap p.length cp) vs ps w) ∧ (i = 4 → Boxed w B 22 (.slice A b.length c)) ∧ (i = 9 → AllKeep B (.slice A b.length c) vn (.loop lp) (.slice Ar r.length cr) p r (.slice Ap p.length cp) vs ps w ∧ Boxed w (B + 1) 27 (.slice Av ps.length cv) ∧ ∃ m, Boxed w (B + 2) 3 (.int .i64 m)))
    case mono => exact ⟨Is.st _, Is.st _, Say.st_of (fun w w' v he ⟨a, h1, h2⟩ => ⟨a, h1, Ext.cellAt he h2⟩), Say.st_of (fun w w' v he ⟨A, c, h1, h2⟩ => ⟨A, c, h1, ownsRow_ext h2 he⟩), Is.st _, Is.st _, Is.st _, Is.st _, Is.st _, Say.st_of (fun w w' v he ⟨hT, ⟨m, h1⟩, A, c, h2, h3⟩ => ⟨hT.ext he, ⟨m, Boxed.ext h1 he⟩, A, c, Boxed.ext h2 he, ownsRow_ext h3 he⟩), Say.st_of (fun w w' v he h => Boxed.ext h he), True.intro⟩
    case monoS => exact fun i w w' he h => ⟨fun e => Boxed.ext (h.1 e) he, fun e => ⟨ownsRow_ext (h.2.1 e).1 he, (h.2.1 e).2.ext he⟩, fun e => Boxed.ext (h.2.2.1 e) he, fun e => ⟨(h.2.2.2 e).1.ext he, Boxed.ext (h.2.2.2 e).2.1 he, (h.2.2.2 e).2.2.choose, Boxed.ext (h.2.2.2 e).2.2.choose_spec he⟩⟩
    case startS => exact fun i => ⟨fun _ => hx1, fun _ => ⟨hx3, hK2⟩, fun _ => hK2.1, fun _ => ⟨hK2, hx1, _, hx2⟩⟩
    case hF => intro u; simp only [fill, Nat.reduceAdd, List.setIfInBounds_toArray, List.set_cons_succ, List.set_cons_zero]; exact rfl
    case steps =>
      refine StepsG.cons ?_ ?_
      · intro u w1 K hE hS hU hd hK hW
        have hc := (hS.1 rfl).cell
        go_simp
        exact hK _ _ (Below.refl _ _) rfl
      refine StepsG.cons ?_ ?_
      · intro u w1 K hE hS hU hd hK hW
        go_simp
        exact hK _ _ (Below.refl _ _) rfl
      refine StepsG.cons ?_ ?_
      · intro u w1 K hE hS hU hd hK hW
        have d1 : u 1 = (.slice Ap p.length cp) := hd 1 rfl
        simp only [d1] at hK
        go_simp
        exact hK _ _ ((Below.refl _ _).alloc (Nat.le_refl _) _) ⟨_, rfl, by simp⟩
      refine StepsG.cons ?_ ?_
      · intro u w1 K hE hS hU hd hK hW
        have d0 : u 0 = (.slice Av ps.length cv) := hd 0 rfl
        obtain ⟨a2, d2, h2_1⟩ : ∃ a2, u 2 = .slice (some a2) 1 1 ∧ w1.cell? a2 = some (.slice Ap p.length cp) := hd 2 rfl
        obtain ⟨hown3, hkeep3⟩ := hS.2.1 rfl
        refine if_run rfl ?_
        refine wp_append_some rt52 (.tmp 10) (.tmp 12) rfl hown3 d0 d2 rfl (row_one h2_1) (by simp [Value.oneCell']) hmany (by have := lt_of_block hkeep3.2.2.1; omega) ?_
        intro A' c' w2 hown' hg' _
        have ht' : Turns B w1 (Value.slice Av ps.length cv).ownBlock := Turns.row hown3 (by decide) (by omega)
        have hlow : ∀ g, g < B + 4 → (Value.slice Av ps.length cv).ownBlock ≠ some g := fun g hg => row_ne_low hown3 hg
        exact hW _ _ (Below.grown (Below.refl B w1) hg' (by have := lt_of_block hkeep3.2.2.1; omega) (fun k e => (ht' k e).1)) ⟨fun _ _ h => h, fun _ _ h => h, fun hk => absurd hk (by decide), fun hk => absurd hk (by decide), fun _ _ h => h, fun _ _ h => h, fun _ _ h => h, fun _ _ h => h, fun _ _ h => h, fun hk => absurd hk (by decide), fun hk => absurd hk (by decide), True.intro⟩ (fun k hk h => ⟨fun e => absurd hk (by subst e; decide), fun e => absurd hk (by subst e; decide), fun e => Boxed.turned (h.2.2.1 e) hg' (hlow _ (by omega)), fun e => ⟨(h.2.2.2 e).1.turned hg' ht' (hlow _ (by omega)) (hlow _ (by omega)) (row_ne_other hown3 hkeep3.2.2.1 rfl) (row_ne_other hown3 hkeep3.2.2.2.1 rfl), Boxed.turned (h.2.2.2 e).2.1 hg' (hlow _ (by omega)), (h.2.2.2 e).2.2.choose, Boxed.turned (h.2.2.2 e).2.2.choose_spec hg' (hlow _ (by omega))⟩⟩)  ⟨A', c', rfl, hown'⟩
      refine StepsG.cons ?_ ?_
      · intro u w1 K hE hS hU hd hK hW
        have hc := (hS.2.2.1 rfl).cell
        go_simp
        exact hK _ _ (Below.refl _ _) rfl
      refine StepsG.cons ?_ ?_
      · intro u w1 K hE hS hU hd hK hW
        have d4 : u 4 = (.slice A b.length c) := hd 4 rfl
        simp only [d4] at hK
        go_simp
        exact hK _ _ (Below.refl _ _) rfl
      refine StepsG.cons ?_ ?_
      · intro u w1 K hE hS hU hd hK hW
        go_simp
        exact hK _ _ (Below.refl _ _) rfl
      refine StepsG.cons ?_ ?_
      · intro u w1 K hE hS hU hd hK hW
        have d6 : u 6 = (.slice Ar r.length cr) := hd 6 rfl
        simp only [d6] at hK
        go_simp
        exact hK _ _ (Below.refl _ _) rfl
      refine StepsG.cons ?_ ?_
      · intro u w1 K hE hS hU hd hK hW
        have d5 : u 5 = (.int .i64 (b.length : Int)) := hd 5 rfl
        have d7 : u 7 = (.int .i64 (r.length : Int)) := hd 7 rfl
        simp only [d5, d7] at hK
        go_simp
        exact hK _ _ (Below.refl _ _) rfl
      refine StepsG.cons ?_ ?_
      · intro u w1 K hE hS hU hd hK hW
        obtain ⟨A3, c3, d3, h3_1⟩ : ∃ A3 c3, u 3 = .slice A3 (ps.length + 1) c3 ∧ w1.ownsRow (B + 4) 22 1 (.slice A3 (ps.length + 1) c3) (ps.length + 1) (vs ++ [Value.slice Ap p.length cp]) := hd 3 rfl
        simp only [d3] at hW
        obtain ⟨hT, hb1, m0, hb2⟩ := hS.2.2.2 rfl
        have hc := hb1.cell
        have hf := hb1.frozen
        go_simp
        have hg := grownBy_setCell' w1 (B + 1) (.slice A3 (ps.length + 1) c3)
        have ht := Turns.box (B := B) hb1 (by decide) (by omega)
        exact hW undef _ ((Below.refl B w1).setCell (p := ⟨B + 1, 0, none⟩) (by simp) _) ⟨fun _ _ h => h, fun _ _ h => h, fun hk => absurd hk (by decide), fun hk => absurd hk (by decide), fun _ _ h => h, fun _ _ h => h, fun _ _ h => h, fun _ _ h => h, fun _ _ h => h, fun hk => absurd hk (by decide), fun hk => absurd hk (by decide), True.intro⟩ (fun k hk h => ⟨fun e => absurd hk (by subst e; decide), fun e => absurd hk (by subst e; decide), fun e => Boxed.turned (h.2.2.1 e) hg (by simp), fun e => absurd hk (by subst e; decide)⟩)  ⟨hT.turned hg ht (by simp) (by simp) (by simp) (by simp), ⟨m0, Boxed.turned hb2 hg (by simp)⟩, A3, c3, hb1.set _, h3_1.kept hg (.inr (row_ne_low h3_1 (by omega)))⟩
      refine StepsG.cons ?_ ?_
      · intro u w1 K hE hS hU hd hK hW
        have d8 : u 8 = (.int .i64 (m9 : Int)) := hd 8 rfl
        simp only [d8] at hW
        obtain ⟨hT, ⟨m0, hb2⟩, A9, c9, hb1, hown9⟩ := hd 9 rfl
        have hc := hb2.cell
        have hf := hb2.frozen
        go_simp
        have hg := grownBy_setCell' w1 (B + 2) (.int .i64 (m9 : Int))
        have ht := Turns.box (B := B) hb2 (by decide) (by omega)
        exact hW undef _ ((Below.refl B w1).setCell (p := ⟨B + 2, 0, none⟩) (by simp) _) ⟨fun _ _ h => h, fun _ _ h => h, fun hk => absurd hk (by decide), fun hk => absurd hk (by decide), fun _ _ h => h, fun _ _ h => h, fun _ _ h => h, fun _ _ h => h, fun _ _ h => h, fun _ _ _ => ⟨hT.turned hg ht (by simp) (by simp) (by simp) (by simp), ⟨_, hb2.set _⟩, A9, c9, Boxed.turned hb1 hg (by simp), hown9.kept hg (.inr (row_ne_low hown9 (by omega)))⟩, fun hk => absurd hk (by decide), True.intro⟩ (fun k hk h => ⟨fun e => absurd hk (by subst e; decide), fun e => absurd hk (by subst e; decide), fun e => absurd hk (by subst e; decide), fun e => absurd hk (by subst e; decide)⟩)  (hb2.set _)
      exact StepsG.nil
    case fin =>
      intro u w9 hE9 hP
      
      
      obtain ⟨hT9, ⟨m0, hb2⟩, A9, c9, hb1, hown9⟩ := hP 9 (by decide) (by decide)
      have hb29 : Boxed w9 (B + 2) 3 (.int .i64 (m9 : Int)) := hP 10 (by decide) (by decide)
      have HE9 := Lib.hid hE9
      clear hE9 hP
      simp only [Exit.inBlock]
      obtain ⟨W5, hW5⟩ : ∃ W5, w9.putObj (B + 5) (.loop (rec .ready none)) = W5 := ⟨_, rfl⟩
      refine ⟨_, W5, by rw [← hW5]; have := run_endRound (P := Try.prog) none hT9.2.2.2.1; rw [hlp, hrec] at this; rw [hrec]; exact this, rfl, ?_⟩
      have hg5 : w9.grownBy W5 (some (B + 5)) := by rw [← hW5]; exact grownBy_putObj' w9 _ _
      have ht5 : Turns B w9 (some (B + 5)) := Turns.other hT9.2.2.2.1 rfl (by omega)
      have hl5 : W5.heap[B + 5]? = some (.loop (rec .ready none)) := by rw [← hW5]; exact World.putObj_heap_same (lt_of_block hT9.2.2.2.1)
      have hbel5 : Below B w9 W5 := Below.grown (Below.refl B w9) hg5 (Nat.le_trans hbw2 HE9.out.size) (fun k e => by injection e with e; omega)
      obtain ⟨k1, k2, k3, k4, k5, k6, k7⟩ := hT9
      refine ⟨⟨ps ++ [p], vs ++ [Value.slice Ap p.length cp], A9, c9, ?_, HL.out, Boxed.turned k1 hg5 (by simp), ?_, ?_, ?_, ?_, (hg5.block _ (lt_of_block k3) (by simp)).trans k3, by have h := hl5; rw [hrec] at h; exact h, hBw.symm, ?_⟩, ?_, k5.turned hg5 ht5⟩
      · rw [H1.out, Frame.all_some HT.out]; simp
      · rw [List.length_append]; exact Boxed.turned hb1 hg5 (by simp)
      · rw [hsub]; exact Boxed.turned hb29 hg5 (by simp)
      · rw [List.length_append]; exact hown9.kept hg5 (.inr (row_ne_other hown9 k4 rfl))
      · exact (k7.turned hg5 ht5).snoc HVL.out (k6.turned hg5 ht5).elem
      · have := H11.out.trans (hbel2.trans (HE9.out.trans hbel5))
        rw [← hBw] at this
        exact this
      · intro v hv
        have e := (show W.heap[B + 3]? = some _ from hv).symm.trans (show W.heap[B + 3]? = some _ from HV.out)
        simp at e
        subst e
        exact Boxed.turned k2 hg5 (by simp)
  · rintro e W9 ⟨⟨v, rfl⟩, r, hr1, hr2, hJ⟩
    obtain ⟨ps, vs, Av, cv, h1, h2, h3, h4, h5, h6, h7, h8, h9, h10, h11⟩ := hJ
    clear h10
    refine ⟨⟨v, rfl⟩, h9, ?_⟩
    have hall : Frame.all b = (ps, r) := by rw [h1, Frame.all_none hr2]; simp
    obtain ⟨W5, hW5⟩ : ∃ W5, W9.putObj (B + 4 + 1) (.loop (rec .exhausted none)) = W5 := ⟨_, rfl⟩
    rw [hW5]
    have hg5 : W9.grownBy W5 (some (B + 5)) := by rw [← hW5]; exact grownBy_putObj' W9 _ _
    have ht5 : Turns B W9 (some (B + 5)) := Turns.other h9 rfl (by omega)
    have hbw : B ≤ W9.heap.size := by have := lt_of_block h8; omega
    have hbw5 : B ≤ W5.heap.size := Nat.le_trans hbw hg5.size
    have hE5 : Below B w W5 := (show Below B w W9 by rw [← hBw]; exact h11).trans (Below.grown (Below.refl B W9) hg5 hbw (fun k e => by injection e with e; omega))
    have hx : AllEnd B (.slice Av ps.length cv) ((b.length : Int) - (r.length : Int)) ps.length vs ps W5 :=
      ⟨Boxed.turned h4 hg5 (by simp), Boxed.turned h5 hg5 (by simp), h6.kept hg5 (.inr (row_ne_other h6 h9 rfl)), h7.turned hg5 ht5, (hg5.block _ (lt_of_block h8) (by simp)).trans h8⟩
    have HALL := Lib.hid hall
    clear hW5 h1 h2 h3 h4 h5 h6 h7 h8 h9 h11 hr1 hr2 hg5 ht5 hbw hinv hl1 hk1 hE1 hE0 b0 b1 b2 b3 hs0 hrec hall
    gi_wp2_with fail
    refine wpIn_wide.2 ?_
    apply wp_region_gen (B) 2 (hbw5) (by kernel_rfl) (by kernel_rfl) (by kernel_rfl)
      [Is (.slice Av ps.length cv), Is (.int .i64 ((b.length : Int) - (r.length : Int))), AllEndSay B (.slice Av ps.length cv) ((b.length : Int) - (r.length : Int)) ps.length vs ps, AllEndSay B (.slice Av ps.length cv) ((b.length : Int) - (r.length : Int)) ps.length vs ps] (fun _ w => AllEnd B (.slice Av ps.length cv) ((b.length : Int) - (r.length : Int)) ps.length vs ps w)
    case mono => exact ⟨Is.st _, Is.st _, Say.st_of (fun w w' v he h => AllEnd.ext h he), Say.st_of (fun w w' v he h => AllEnd.ext h he), True.intro⟩
    case monoS => exact fun i w w' he h => h.ext he
    case startS => exact fun i => hx
    case hF => intro u; simp only [fill, Nat.reduceAdd, List.setIfInBounds_toArray, List.set_cons_succ, List.set_cons_zero]; exact rfl
    case steps =>
      refine StepsG.cons ?_ ?_
      · intro u w1 K hE hS hU hd hK hW
        have hc := hS.1.cell
        go_simp
        exact hK _ _ (Below.refl _ _) rfl
      refine StepsG.cons ?_ ?_
      · intro u w1 K hE hS hU hd hK hW
        have hc := hS.2.1.cell
        go_simp
        exact hK _ _ (Below.refl _ _) rfl
      refine StepsG.cons ?_ ?_
      · intro u w1 K hE hS hU hd hK hW
        have d0 : u 0 = (.slice Av ps.length cv) := hd 0 rfl
        simp only [d0] at hW
        have hc := hS.1.cell
        have hf := hS.1.frozen
        go_simp
        exact hW undef _ ((Below.refl B w1).setCell (p := ⟨B + 1, 0, none⟩) (by simp) _) ⟨fun _ _ h => h, fun _ _ h => h, fun hk => absurd hk (by decide), fun hk => absurd hk (by decide), True.intro⟩ (fun k hk h => h.set1)  hS.set1
      refine StepsG.cons ?_ ?_
      · intro u w1 K hE hS hU hd hK hW
        have d1 : u 1 = (.int .i64 ((b.length : Int) - (r.length : Int))) := hd 1 rfl
        simp only [d1] at hW
        have hc := hS.2.1.cell
        have hf := hS.2.1.frozen
        go_simp
        exact hW undef _ ((Below.refl B w1).setCell (p := ⟨B + 2, 0, none⟩) (by simp) _) ⟨fun _ _ h => h, fun _ _ h => h, fun _ _ h => AllEnd.set2 h, fun hk => absurd hk (by decide), True.intro⟩ (fun k hk h => h.set2)  hS.set2
      exact StepsG.nil
    case fin =>
      intro u w9 hE9 hP
      
      
      obtain ⟨hx1, hx2, hx3, hx4, hx5⟩ := hP 3 (by decide) (by decide)
      have HE9 := Lib.hid (hE5.trans hE9)
      have hc1 := hx1.cell
      have hc2 := hx2.cell
      clear hE9 hE5 hP
      gi_wp2_with fail
      refine ⟨by simp, .inl ⟨_, _, rfl, run_takeDeferred hx5, ?_⟩⟩
      have hg7 := grownBy_putObj' w9 (B + 4) (.deferred none)
      have ht7 : Turns B w9 (some (B + 4)) := Turns.other hx5 rfl (by omega)
      refine ⟨_, results39 _ B rfl rfl (Boxed.turned hx1 hg7 (by simp)).cell (Boxed.turned hx2 hg7 (by simp)).cell, ?_⟩
      rw [HALL.out, hBw]
      refine ⟨_, rfl, ⟨vs, (ownsRow_mono hx3 (by omega)).kept hg7 (.inr (row_ne_other hx3 hx5 rfl)), hx4.turned hg7 ht7⟩, ?_⟩
      show Below w.heap.size w _
      rw [hBw]
      exact HE9.out.trans (Below.grown (Below.refl B w9) hg7 (by have := lt_of_block hx5; omega) (fun k e => by injection e with e; omega))

end Go.Proofs.Ytjcngipaeoegcaa
