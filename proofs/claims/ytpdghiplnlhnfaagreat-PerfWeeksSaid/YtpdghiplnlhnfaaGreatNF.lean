/-
  Joined: Goal2. Nothing is proved here of a statement.
-/
import Derived.Test.YtpdghiplnlhnfaaGreatNC
import Derived.Test.YtpdghiplnlhnfaaGreatNE
namespace Go.Proofs.YtpdghiplnlhnfaaGreat.Ax
set_option linter.unusedSimpArgs false
set_option linter.unusedVariables false
open Go Go.Proofs
set_option maxRecDepth 100000
set_option linter.unusedSimpArgs false
set_option linter.unusedVariables false
theorem c59 (h : List Ob) (s : Setup) (a : SA) (k : SIn h s a) (f : SFit s) (hs : setupOk s = true) (x y : Nat) (hx : x < s.places.toNat) (hy : y < s.places.toNat) :
    ACalls Tryz.prog 67 [setupV s a, i64 x, i64 y] h fun r h' => r = i64 (matAt (tableP s) x y) ∧ h' = h := by
  have dx : decide ((x : Int) < 0) = false := by simp
  have dy : decide ((y : Int) < 0) = false := by simp
  refine acalls_wp Tryz.f67 [.tmp 6] 35 rfl rfl rfl rfl rfl rfl (by decide) (⟨_, _, ⟨rfl, rfl⟩, .refl⟩) fun B => ?_
  simp only [go_sem, k.w.one, k.e.one, k.c.one, k.g.one, k.r.one, k.t.one]
  refine call_by (c91 _ s a (k.app _) f hs) ?_
  rintro _ h4 ⟨L, out, st, ids, o, rfl, n1, rfl, ht⟩
  obtain ⟨px, x1, x2, x3⟩ := ht.ix hx
  obtain ⟨X, X1, X2, X3⟩ := ht.rd x1 hx
  have hXy := X3 y hy
  have rx := ht.row
  have ex : decide ((x : Int) ≥ (ids.length : Int)) = false := by simp [ht.len]; omega
  have ey : decide ((y : Int) ≥ (ids.length : Int)) = false := by simp [ht.len]; omega
  have lx : (x : Int) < (ids.length : Int) := by rw [ht.len]; omega
  have lX : (y : Int) < (X.length : Int) := by rw [X2]; omega
  simp only [List.append_assoc, List.cons_append, List.nil_append] at rx X1
  simp only [go_sem, dx, dy, rx, List.length_map, ex, ey, bq_t, x2, X1, hXy, lx, lX, Int.toNat_natCast, Int.natCast_nonneg]
  (first | refine endA_pure0 ?_ | refine endA_pure ?_ (by rfl)) <;> (simp only [go_sem] <;> try rfl)
theorem fit_zero : FitR (0, 0) := ⟨by simp [Fit], by simp [Fit]⟩
theorem fit_sumG : ∀ (l : List Rat2) (z : Rat2), FitR z → FitR (sumG z l).1
  | [], z, h => by unfold sumG; exact h
  | x :: l, z, h => by
    unfold sumG
    split
    · exact fit_zero
    · exact fit_sumG l _ (fit_two _ _ _)
theorem fit_sum (l : List Rat2) : FitR (sumR l).1 := by
  unfold sumR
  split
  · exact fit_sumG l _ ⟨by simp [Fit], by simp [Fit]⟩
  · exact fit_zero
theorem fit_then {f : Rat2 → Rat2 → Rat2 × Int} (hf : ∀ a b, FitR (f a b).1) (a b : Rat2) (w : Int) : FitR (thenP f a b w).1 := by
  unfold thenP
  simp only
  split
  · exact hf a b
  · exact fit_zero
structure TaskIn (s : Setup) (e : Ev) : Prop where
  from_ : 0 ≤ e.from_ ∧ e.from_ < s.places
  to_ : 0 ≤ e.to_ ∧ e.to_ < s.places
  element : 0 ≤ e.element ∧ e.element < s.elements.length
  class_ : 0 ≤ e.class_ ∧ e.class_ < s.classes.length
  gear : 0 ≤ e.gear ∧ e.gear < s.gears.length
  units : 0 ≤ e.units ∧ e.units ≤ 10000
theorem task_in {s : Setup} {e : Ev} (h : evOk s e = true) (hk : e.kind = 3) : TaskIn s e := by
  have hf := evOk_fair h
  simp only [fairOk, fieldsOk, hk, if_true, Bool.and_eq_true, Bool.not_not, Bool.not_eq_true', decide_eq_false_iff_not] at hf
  obtain ⟨_, _, _, _, f1, f2, f3, f4, f5, f6, _⟩ := hf
  unfold evOk at h
  rw [hk] at h
  simp only [if_true, belowOk, List.all_cons, List.all_nil, Bool.and_eq_true, Bool.not_not, Bool.not_eq_true', decide_eq_false_iff_not] at h
  obtain ⟨_, _, g1, g2, g3, g4, g5, g6, _⟩ := h
  exact ⟨by omega, by omega, by omega, by omega, by omega, by omega⟩
def FitM (D : Mat) : Prop := ∀ r ∈ D, ∀ z ∈ r, Fit z
theorem fitM_at {D : Mat} (h : FitM D) (a b : Nat) : Fit (matAt D a b) := by
  unfold matAt
  rw [List.getD_eq_getElem?_getD, List.getD_eq_getElem?_getD]
  by_cases ha : a < D.length
  · rw [List.getElem?_eq_getElem ha]
    simp only [Option.getD_some]
    by_cases hb : b < D[a].length
    · rw [List.getElem?_eq_getElem hb]; exact h _ (List.getElem_mem ha) _ (List.getElem_mem hb)
    · rw [List.getElem?_eq_none (l := D[a]) (i := b) (by omega)]; simp [Fit]
  · rw [List.getElem?_eq_none (l := D) (i := a) (by omega)]; simp [Fit]
theorem fitM_near {D : Mat} (h : FitM D) {a b : Nat} {n : Int} (hn : Fit n) : FitM (nearP D a b n) := by
  unfold nearP
  split
  · intro r hr z hz
    rcases List.mem_or_eq_of_mem_set hr with hr | rfl
    · exact h r hr z hz
    · rcases List.mem_or_eq_of_mem_set hz with hz | rfl
      · by_cases ha : a < D.length
        · rw [List.getD_eq_getElem?_getD, List.getElem?_eq_getElem ha] at hz
          exact h _ (List.getElem_mem ha) z hz
        · rw [List.getD_eq_getElem?_getD, List.getElem?_eq_none (l := D) (i := a) (by omega)] at hz
          cases hz
      · exact hn
  · exact h
theorem fitM_fold {α : Type} {f : Mat → α → Mat} : ∀ (l : List α) (D : Mat), (∀ D, ∀ x ∈ l, FitM D → FitM (f D x)) → FitM D → FitM (l.foldl f D)
  | [], _, _, h => h
  | x :: l, D, hf, h => fitM_fold l (f D x) (fun D y hy => hf D y (.tail _ hy)) (hf D x (.head _) h)
theorem fitM_table {s : Setup} (hs : setupOk s = true) : FitM (tableP s) := by
  have hm : ∀ w ∈ s.ways, Fit w.2.2 := fun w hw => by
    simp only [setupOk, placesOk, Bool.and_eq_true] at hs
    have hb := hs.1.1.1.2
    simp only [Bool.not_eq_true', List.any_eq_false] at hb
    have := hb w hw
    simp [wayBad, allI, outI] at this
    unfold Fit
    omega
  unfold tableP
  refine fitM_fold _ _ (fun D y _ h => fitM_fold _ _ (fun D x _ h => ?_) h) (fitM_fold _ _ (fun D w hw h => fitM_near (fitM_near h (hm w hw)) (hm w hw)) ?_)
  · unfold viaA
    split
    · exact h
    · refine fitM_fold _ _ (fun D b _ h => ?_) h
      unfold viaB
      split
      · exact fitM_near h (fit_wr _)
      · exact h
  · intro r hr z hz
    obtain ⟨i, _, rfl⟩ := List.mem_map.1 hr
    rcases List.mem_or_eq_of_mem_set hz with hz | rfl
    · rw [List.eq_of_mem_replicate hz]; simp [Fit]
    · simp [Fit]
set_option maxHeartbeats 4000000 in
theorem c22 (h : List Ob) (s : Setup) (a : SA) (k : SIn h s a) (f : SFit s) (e : Ev) :
    ACalls Tryz.prog 32 [setupV s a, evV e] h fun r h' => r = ratE (goalP s e) ∧ h' = h := by
  refine acalls_wp Tryz.f32 [.cell 4 24, .tmp 5] 105 rfl rfl rfl rfl rfl rfl (by decide) (⟨_, _, ⟨rfl, rfl⟩, .refl⟩) fun B => ?_
  simp only [go_sem, k.w.one, k.e.one, k.c.one, k.g.one, k.r.one, k.t.one]
  refine call_by (c16 _ s a (k.app _) f) ?_
  rintro _ h1 ⟨rfl, e2⟩
  subst e2
  cases q1 : setupOk s
  · have hg : goalP s e = ((0, 0), 100) := by simp [goalP, q1]
    rw [hg]
    simp only [go_sem, q1, bq_t, Bool.not_false]
    (first | refine endA_pure0 ?_ | refine endA_pure ?_ (by rfl)) <;> (simp only [go_sem] <;> try rfl)
  have kk : ∀ M, SIn (h ++ M) s a := fun M => k.app M
  simp only [go_sem, q1, bq_t, Bool.not_true, (kk _).w.one, (kk _).e.one, (kk _).c.one, (kk _).g.one, (kk _).r.one, (kk _).t.one]
  refine call_by (c14 _ s a (k.app _) e) ?_
  rintro _ h1 ⟨rfl, e2⟩
  subst e2
  cases q2 : evOk s e
  · have hg : goalP s e = ((0, 0), 100) := by simp [goalP, q2]
    rw [hg]
    simp only [go_sem, q2, bq_t, Bool.not_false]
    (first | refine endA_pure0 ?_ | refine endA_pure ?_ (by rfl)) <;> (simp only [go_sem] <;> try rfl)
  cases q3 : e.kind != 3
  rotate_left
  · have hg : goalP s e = ((0, 0), 100) := by
      have : (e.kind == 3) = false := by simpa using q3
      simp [goalP, this]
    rw [hg]
    simp only [go_sem, q2, q3, bq_t, Bool.not_true]
    (first | refine endA_pure0 ?_ | refine endA_pure ?_ (by rfl)) <;> (simp only [go_sem] <;> try rfl)
  have hk3 : e.kind = 3 := by simpa using q3
  have ht := task_in q2 hk3
  obtain ⟨x, hx⟩ := Int.eq_ofNat_of_zero_le ht.from_.1
  obtain ⟨y, hy⟩ := Int.eq_ofNat_of_zero_le ht.to_.1
  simp only [go_sem, q2, q3, bq_t, Bool.not_true, hx, hy, (kk _).w.one, (kk _).e.one, (kk _).c.one, (kk _).g.one, (kk _).r.one, (kk _).t.one]
  have hpl : x < s.places.toNat := by have := ht.from_.2; omega
  have hpl2 : y < s.places.toNat := by have := ht.to_.2; omega
  refine call_by (c59 _ s a (kk _) f q1 x y hpl hpl2) ?_
  rintro _ h1 ⟨rfl, e2⟩
  subst e2
  have hfar : farP s e = matAt (tableP s) x y := by unfold farP; rw [hx, hy]; rfl
  obtain ⟨far, hf⟩ : ∃ far, far = matAt (tableP s) x y := ⟨_, rfl⟩
  rw [← hf] at hfar ⊢
  have hff : Fit far := by rw [hf]; exact fitM_at (fitM_table q1) x y
  cases q4 : far == -1
  rotate_left
  · have g4 : far = -1 := by simpa using q4
    have hg : goalP s e = ((0, 0), 100) := by
      unfold goalP
      rw [q1, q2, hfar, g4]
      simp [hk3]
    rw [hg]
    simp only [go_sem, q4]
    (first | refine endA_pure0 ?_ | refine endA_pure ?_ (by rfl)) <;> (simp only [go_sem] <;> try rfl)
  have g4 : ¬ far = -1 := by simpa using q4
  have hg : goalP s e = if (stepsP s e far).2 = 0 then ((stepsP s e far).1, 0) else ((0, 0), (stepsP s e far).2) := by
    unfold goalP
    rw [q1, q2, hfar, if_neg g4]
    simp [hk3]
  obtain ⟨ie, hie⟩ := Int.eq_ofNat_of_zero_le ht.element.1
  obtain ⟨ig, hig⟩ := Int.eq_ofNat_of_zero_le ht.gear.1
  obtain ⟨ic, hic⟩ := Int.eq_ofNat_of_zero_le ht.class_.1
  have le : ie < s.elements.length := by have := ht.element.2; omega
  have lg : ig < s.gears.length := by have := ht.gear.2; omega
  have lc : ic < s.classes.length := by have := ht.class_.2; omega
  have leI : (ie : Int) < (s.elements.length : Int) := by omega
  have lgI : (ig : Int) < (s.gears.length : Int) := by omega
  have lcI : (ic : Int) < (s.classes.length : Int) := by omega
  have eE : ∀ M, eOf (h ++ M) a.e = some 4 := fun M => (kk M).e.at (i := ie) (by simpa using le)
  have eG : ∀ M, eOf (h ++ M) a.g = some 2 := fun M => (kk M).g.at (i := ig) (by simpa using lg)
  have eC : ∀ M, eOf (h ++ M) a.c = some 2 := fun M => (kk M).c.at (i := ic) (by simpa using lc)
  have rE : ∀ M, rowsOf (h ++ M) a.e = some (s.elements.map erow) := fun M => (kk M).e.rows
  have rG : ∀ M, rowsOf (h ++ M) a.g = some (s.gears.map rrow) := fun M => (kk M).g.rows
  have rC : ∀ M, rowsOf (h ++ M) a.c = some (s.classes.map rrow) := fun M => (kk M).c.rows
  obtain ⟨el, hel⟩ : ∃ el, el = eltAt s.elements e.element := ⟨_, rfl⟩
  obtain ⟨ge, hge⟩ : ∃ ge, ge = ratAt s.gears e.gear := ⟨_, rfl⟩
  obtain ⟨cl, hcl⟩ : ∃ cl, cl = ratAt s.classes e.class_ := ⟨_, rfl⟩
  have gE : (s.elements.map erow)[ie]? = some [i64 el.1.1, i64 el.1.2, i64 el.2.1, i64 el.2.2] := by
    rw [hel, hie, List.getElem?_map, List.getElem?_eq_getElem le]
    simp [eltAt, List.getD_eq_getElem?_getD, le, erow]
  have gG : (s.gears.map rrow)[ig]? = some [i64 ge.1, i64 ge.2] := by
    rw [hge, hig, List.getElem?_map, List.getElem?_eq_getElem lg]
    simp [ratAt, List.getD_eq_getElem?_getD, lg, rrow]
  have gC : (s.classes.map rrow)[ic]? = some [i64 cl.1, i64 cl.2] := by
    rw [hcl, hic, List.getElem?_map, List.getElem?_eq_getElem lc]
    simp [ratAt, List.getD_eq_getElem?_getD, lc, rrow]
  simp only [go_sem, q4, hie, hig, hic, eE, rE, gE, leI, List.length_map, Int.toNat_natCast, Int.natCast_nonneg]
  refine wp_draw rfl [.res] 1 [(0, 0, []), (1, 0, []), (2, 0, []), (3, 0, []), (5, 0, []), (8, 0, []), (10, 0, []), (6, 0, []), (9, 0, []), (11, 0, []), (12, 0, []), (13, 0, []), (4, 0, [6, 9, 11, 12, 13]), (7, 0, [9, 11, 12, 13]), (14, 0, []), (15, 0, []), (16, 0, [])] rfl (by decide) (by decide) ?_
  simp only [go_sem, hie, hig, hic, eG, rG, gG, lgI, List.length_map, Int.toNat_natCast, Int.natCast_nonneg]
  refine call_by (c62 far _) ?_
  rintro _ h1 ⟨rfl, e2⟩
  subst e2
  simp only [go_sem, hie, hig, hic, eG, rG, gG, lgI, List.length_map, Int.toNat_natCast, Int.natCast_nonneg]
  have j60 : ∀ (h : List Ob) (j : Nat) (w : Int) (g : FuncId) (a b : Rat2) (v : Rat2 → Rat2 → Rat2 × Int), h[j]? = some (.box 34 [i64 w]) → (∀ h, ACalls Tryz.prog g [rat a, rat b] h fun r h' => r = ratE (v a b) ∧ h' = h) →
      ACalls Tryz.prog 68 [.fn (.func g) [] [], rat a, rat b, .ptr j 0] h fun r h' => r = rat (thenP v a b w).1 ∧ h' = h.set j (.box 34 [i64 (thenP v a b w).2]) := fun h j w g a b v hj hc => c60 h j w g a b (v a b) hj fun L => hc _
  have mul0 : ∀ (a b : Rat2), FitR a → FitR b → ∀ h, ACalls Tryz.prog 71 [rat a, rat b] h fun r h' => r = ratE (mulR a b) ∧ h' = h := fun a b ha hb h => c24 a b ha hb h
  have add0 : ∀ (a b : Rat2), FitR a → FitR b → ∀ h, ACalls Tryz.prog 69 [rat a, rat b] h fun r h' => r = ratE (addR a b) ∧ h' = h := fun a b ha hb h => c61 a b ha hb h
  have fm : ∀ a b w, FitR (thenP mulR a b w).1 := fun a b w => fit_then (fun _ _ => fit_two _ _ _) a b w
  have fa : ∀ a b w, FitR (thenP addR a b w).1 := fun a b w => fit_then (fun _ _ => fit_sum _) a b w
  have ffar : FitR (far, 1) := ⟨hff, by simp [Fit]⟩
  have fge : FitR ge := by
    rw [hge, hig]
    simp only [ratAt, Int.toNat_natCast, List.getD_eq_getElem?_getD, List.getElem?_eq_getElem lg, Option.getD_some]
    exact f.gears _ (List.getElem_mem lg)
  have fcl : FitR cl := by
    rw [hcl, hic]
    simp only [ratAt, Int.toNat_natCast, List.getD_eq_getElem?_getD, List.getElem?_eq_getElem lc, Option.getD_some]
    exact f.classes _ (List.getElem_mem lc)
  have fel : FitR el.1 ∧ FitR el.2 := by
    rw [hel, hie]
    simp only [eltAt, Int.toNat_natCast, List.getD_eq_getElem?_getD, List.getElem?_eq_getElem le, Option.getD_some]
    exact f.elements _ (List.getElem_mem le)
  have fun_ : FitR (e.units, 1) := ⟨by have := ht.units; unfold Fit; omega, by simp [Fit]⟩
  have look : ∀ (L : List Ob) (k : Nat), (h ++ L)[h.length + k]? = L[k]? := fun L k => get_new rfl
  refine call_by (j60 _ (h.length + 3) 0 71 (far, 1) s.pace mulR (by rw [look]; rfl) (mul0 _ _ ffar f.pace)) ?_
  rintro _ h1 ⟨rfl, e2⟩
  subst e2
  obtain ⟨x1, hx1⟩ : ∃ x1, x1 = thenP mulR (far, 1) s.pace 0 := ⟨_, rfl⟩
  rw [← hx1]
  have fx1 : FitR x1.1 := by rw [hx1]; exact fm _ _ _
  simp only [go_sem, hie, hig, hic, eG, rG, gG, lgI, eC, rC, gC, lcI, List.length_map, Int.toNat_natCast, Int.natCast_nonneg]
  refine call_by (j60 _ (h.length + 3) x1.2 71 x1.1 ge mulR (by rw [look]; rfl) (mul0 _ _ fx1 fge)) ?_
  rintro _ h1 ⟨rfl, e2⟩
  subst e2
  obtain ⟨x2, hx2⟩ : ∃ x2, x2 = thenP mulR x1.1 ge x1.2 := ⟨_, rfl⟩
  rw [← hx2]
  simp only [go_sem, hie, hig, hic, eG, rG, gG, lgI, eC, rC, gC, lcI, List.length_map, Int.toNat_natCast, Int.natCast_nonneg]
  have fx2 : FitR x2.1 := by rw [hx2]; exact fm _ _ _
  refine wp_draw rfl [.res] 1 [(0, 0, []), (1, 0, []), (2, 0, []), (4, 0, []), (5, 0, []), (7, 0, []), (8, 0, []), (3, 0, []), (6, 0, []), (9, 0, []), (10, 0, [3, 6]), (11, 0, [3]), (12, 0, []), (13, 0, []), (14, 0, [])] rfl (by decide) (by decide) ?_
  simp only [go_sem, hie, hig, hic, eG, rG, gG, lgI, eC, rC, gC, lcI, List.length_map, Int.toNat_natCast, Int.natCast_nonneg]
  refine call_by (c62 e.units _) ?_
  rintro _ h1 ⟨rfl, e2⟩
  subst e2
  simp only [go_sem, hie, hig, hic, eG, rG, gG, lgI, eC, rC, gC, lcI, List.length_map, Int.toNat_natCast, Int.natCast_nonneg]
  refine call_by (j60 _ (h.length + 3) x2.2 71 el.2 (e.units, 1) mulR (by rw [look]; rfl) (mul0 _ _ fel.2 fun_)) ?_
  rintro _ h1 ⟨rfl, e2⟩
  subst e2
  obtain ⟨x3, hx3⟩ : ∃ x3, x3 = thenP mulR el.2 (e.units, 1) x2.2 := ⟨_, rfl⟩
  rw [← hx3]
  simp only [go_sem, hie, hig, hic, eG, rG, gG, lgI, eC, rC, gC, lcI, List.length_map, Int.toNat_natCast, Int.natCast_nonneg]
  have fx3 : FitR x3.1 := by rw [hx3]; exact fm _ _ _
  refine call_by (j60 _ (h.length + 3) x3.2 69 el.1 x3.1 addR (by rw [look]; rfl) (add0 _ _ fel.1 fx3)) ?_
  rintro _ h1 ⟨rfl, e2⟩
  subst e2
  obtain ⟨x4, hx4⟩ : ∃ x4, x4 = thenP addR el.1 x3.1 x3.2 := ⟨_, rfl⟩
  rw [← hx4]
  simp only [go_sem, hie, hig, hic, eG, rG, gG, lgI, eC, rC, gC, lcI, List.length_map, Int.toNat_natCast, Int.natCast_nonneg]
  have fx4 : FitR x4.1 := by rw [hx4]; exact fa _ _ _
  refine wp_draw rfl [] 0 [(0, 0, []), (2, 0, []), (4, 0, []), (1, 0, []), (3, 0, []), (5, 0, []), (6, 0, []), (7, 0, []), (8, 0, []), (9, 0, [])] rfl (by decide) (by decide) ?_
  simp only [go_sem, hie, hig, hic, eG, rG, gG, lgI, eC, rC, gC, lcI, List.length_map, Int.toNat_natCast, Int.natCast_nonneg]
  refine call_by (j60 _ (h.length + 3) x4.2 71 x4.1 cl mulR (by rw [look]; rfl) (mul0 _ _ fx4 fcl)) ?_
  rintro _ h1 ⟨rfl, e2⟩
  subst e2
  obtain ⟨x5, hx5⟩ : ∃ x5, x5 = thenP mulR x4.1 cl x4.2 := ⟨_, rfl⟩
  rw [← hx5]
  simp only [go_sem, hie, hig, hic, eG, rG, gG, lgI, eC, rC, gC, lcI, List.length_map, Int.toNat_natCast, Int.natCast_nonneg]
  have fx5 : FitR x5.1 := by rw [hx5]; exact fm _ _ _
  refine call_by (c18 (wr (100 + s.allow)) 100 (fit_wr _) (by simp [Fit]) _) ?_
  rintro _ h1 ⟨rfl, e2⟩
  subst e2
  simp only [go_sem]
  refine wp_draw rfl [.res] 1 [(0, 0, []), (1, 0, []), (2, 0, []), (3, 0, []), (4, 0, []), (6, 0, []), (5, 0, [6]), (7, 0, []), (8, 0, []), (9, 0, [])] rfl (by decide) (by decide) ?_
  simp only [go_sem, hie, hig, hic, eG, rG, gG, lgI, eC, rC, gC, lcI, List.length_map, Int.toNat_natCast, Int.natCast_nonneg]
  refine call_by (j60 _ (h.length + 3) x5.2 69 x2.1 x5.1 addR (by rw [look]; rfl) (add0 _ _ fx2 fx5)) ?_
  rintro _ h1 ⟨rfl, e2⟩
  subst e2
  obtain ⟨x6, hx6⟩ : ∃ x6, x6 = thenP addR x2.1 x5.1 x5.2 := ⟨_, rfl⟩
  rw [← hx6]
  simp only [go_sem, hie, hig, hic, eG, rG, gG, lgI, eC, rC, gC, lcI, List.length_map, Int.toNat_natCast, Int.natCast_nonneg]
  have fx6 : FitR x6.1 := by rw [hx6]; exact fa _ _ _
  refine call_by (j60 _ (h.length + 3) x6.2 71 x6.1 (make (wr (100 + s.allow)) 100).1 mulR (by rw [look]; rfl) (mul0 _ _ fx6 (fit_make _ _))) ?_
  rintro _ h1 ⟨rfl, e2⟩
  subst e2
  obtain ⟨x7, hx7⟩ : ∃ x7, x7 = thenP mulR x6.1 (make (wr (100 + s.allow)) 100).1 x6.2 := ⟨_, rfl⟩
  rw [← hx7]
  simp only [go_sem, hie, hig, hic, eG, rG, gG, lgI, eC, rC, gC, lcI, List.length_map, Int.toNat_natCast, Int.natCast_nonneg]
  have hsteps : stepsP s e far = x7 := by
    unfold stepsP
    rw [← hel, ← hge, ← hcl]
    simp only
    rw [← hx1, ← hx2, ← hx3, ← hx4, ← hx5, ← hx6, ← hx7]
  rw [hsteps] at hg
  refine ways (fun e7 => ?_) (fun e7 => ?_)
  · have g7 : ¬ x7.2 = 0 := by simpa using e7
    rw [if_neg g7] at hg
    rw [hg]
    simp only [go_sem]
    refine wp_draw rfl [] 0 [(0, 0, []), (1, 0, []), (2, 0, [1]), (3, 0, [])] rfl (by decide) (by decide) ?_
    simp only [go_sem]
    (first | refine endA_pure0 ?_ | refine endA_pure ?_ (by rfl)) <;> (simp only [go_sem] <;> try rfl)
  · have g7 : x7.2 = 0 := by simpa using e7
    rw [if_pos g7] at hg
    rw [hg]
    simp only [go_sem]
    (first | refine endA_pure0 ?_ | refine endA_pure ?_ (by rfl)) <;> (simp only [go_sem] <;> try rfl)
end Go.Proofs.YtpdghiplnlhnfaaGreat.Ax
