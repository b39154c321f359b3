/-
  Joined: Same, Few. Nothing is proved here of a statement.
-/
import Derived.Test.YtpdghiplnlhnfaaGreatMM
namespace Go.Proofs.YtpdghiplnlhnfaaGreat.Ax
set_option linter.unusedSimpArgs false
set_option linter.unusedVariables false
open Go Go.Proofs
set_option maxRecDepth 100000
set_option linter.unusedSimpArgs false
set_option linter.unusedVariables false
attribute [go_sem] ty49 ty88 pe88
structure Spn where
  from_ : Int
  to_ : Int
abbrev spnC (x : Spn) : List AV := [i64 x.from_, i64 x.to_]
theorem take_snoc {α : Type} {a b : List α} {k : Nat} {x : α} (h : a.take k = b.take k) (ha : a[k]? = some x) (hb : b[k]? = some x) : a.take (k + 1) = b.take (k + 1) := by
  rw [List.take_add_one, List.take_add_one, h, ha, hb]
theorem same_no {α : Type} {a b : List α} {k : Nat} {x y : α} (ha : a[k]? = some x) (hb : b[k]? = some y) (hxy : x ≠ y) : a ≠ b := fun h => by
  rw [h, hb] at ha
  injection ha with ha
  exact hxy ha.symm

def segT (x : Seg) : Int × Int × Int × Int × Int := (x.from_, x.to_, x.kind, x.id, x.code)
theorem segT_inj {x y : Seg} (h : segT x = segT y) : x = y := by
  cases x; cases y
  simp only [segT, Prod.mk.injEq] at h
  simp [h]
theorem c33 (h : List Ob) (x y : AV) (a b : List Seg) (hx : SlOf h x 5 (a.map segC)) (hy : SlOf h y 5 (b.map segC)) (hl : a.length < 1099511627776) (hl2 : b.length < 1099511627776) :
    ACalls Tryz.prog 16 [x, y] h fun r h' => r = bl (decide (a.map segT = b.map segT)) ∧ h' = h := by
  refine acalls_wp Tryz.f16 [.tmp 4] 26 rfl rfl rfl rfl rfl rfl (by decide) (⟨_, _, ⟨rfl, rfl⟩, .refl⟩) fun B => ?_
  simp only [go_sem, hx.rows, hy.rows, List.length_map]
  refine ways (fun e => ?_) (fun e => ?_)
  · simp only [go_sem]
    have hne : a.map segT ≠ b.map segT := fun q => by
      have := congrArg List.length q
      simp at this
      simp [this] at e
    (first | refine endA_pure0 ?_ | refine endA_pure ?_ (by rfl)) <;> (simp only [go_sem, decide_eq_false hne] <;> try rfl)
  · have hab : a.length = b.length := by
      have : (a.length : Int) = b.length := by simpa using e
      omega
    simp only [go_sem]
    refine wp_loop_a (by decide) (fun m T h' => h' = h ∧ ∃ k : Nat, k ≤ a.length ∧ (a.map segT).take k = (b.map segT).take k ∧ T 0 = x ∧ T 1 = y ∧ T 5 = i64 k ∧ m = a.length - k) a.length
      ⟨rfl, 0, by omega, rfl, by simp only [go_sem], by simp only [go_sem], by (simp only [go_sem] <;> rfl), rfl⟩ ?_
    rintro m T h' ⟨rfl, k, hk, heq, t0, t1, t5, rfl⟩
    simp only [go_sem, t5, t0, hx.rows, List.length_map]
    refine ways (fun e => ?_) (fun e => ?_)
    · have hlt := dlt e
      have hlt2 : k < b.length := by omega
      have ea := hx.at (i := k) (by simpa using hlt)
      have eb := hy.at (i := k) (by simpa using hlt2)
      have ra : (a.map segC)[k]? = some (segC a[k]) := by rw [List.getElem?_map, List.getElem?_eq_getElem hlt]; rfl
      have rb : (b.map segC)[k]? = some (segC b[k]) := by rw [List.getElem?_map, List.getElem?_eq_getElem hlt2]; rfl
      have ta : (a.map segT)[k]? = some (segT a[k]) := by rw [List.getElem?_map, List.getElem?_eq_getElem hlt]; rfl
      have tb : (b.map segT)[k]? = some (segT b[k]) := by rw [List.getElem?_map, List.getElem?_eq_getElem hlt2]; rfl
      have la := len_bound hlt
      have lb := len_bound hlt2
      simp only [go_sem]
      refine wp_draw rfl [] 0 [(0, 0, []), (1, 0, []), (4, 0, []), (5, 0, []), (2, 0, []), (3, 0, []), (6, 0, []), (7, 0, []), (8, 0, [])] rfl (by decide) (by decide) ?_
      simp only [go_sem, t5, t0, t1, hx.rows, hy.rows, ea, eb, ra, rb, la, lb, List.length_map, Int.toNat_natCast, Int.natCast_nonneg]
      refine ways (fun e2 => ?_) (fun e2 => ?_)
      · have hne : segT a[k] ≠ segT b[k] := fun q => by
          simp only [segT, Prod.mk.injEq] at q
          simp [q] at e2
        simp only [go_sem]
        (first | refine endA_pure0 ?_ | refine endA_pure ?_ (by rfl)) <;> (simp only [go_sem, decide_eq_false (same_no ta tb hne)] <;> try rfl)
      · have he : segT a[k] = segT b[k] := by
          simp only [segT, Prod.mk.injEq]
          simpa using e2
        simp only [go_sem, t5]
        exact ⟨a.length - (k + 1), by omega, k + 1, by omega, take_snoc heq ta (by rw [he]; exact tb), t0, t1, t_succ (by omega) rfl, rfl⟩
    · have hge := dnlt e
      have hk2 : k = a.length := by omega
      have hall : a.map segT = b.map segT := by
        rw [List.take_of_length_le (by simp; omega), List.take_of_length_le (by simp; omega)] at heq
        exact heq
      simp only [go_sem]
      (first | refine endA_pure0 ?_ | refine endA_pure ?_ (by rfl)) <;> (simp only [go_sem, decide_eq_true hall] <;> try rfl)

def flgT (x : Flg) : Int × Int := (x.id, x.kind)
theorem flgT_inj {x y : Flg} (h : flgT x = flgT y) : x = y := by
  cases x; cases y
  simp only [flgT, Prod.mk.injEq] at h
  simp [h]
theorem c34 (h : List Ob) (x y : AV) (a b : List Flg) (hx : SlOf h x 2 (a.map flgC)) (hy : SlOf h y 2 (b.map flgC)) (hl : a.length < 1099511627776) (hl2 : b.length < 1099511627776) :
    ACalls Tryz.prog 17 [x, y] h fun r h' => r = bl (decide (a.map flgT = b.map flgT)) ∧ h' = h := by
  refine acalls_wp Tryz.f17 [.tmp 4] 26 rfl rfl rfl rfl rfl rfl (by decide) (⟨_, _, ⟨rfl, rfl⟩, .refl⟩) fun B => ?_
  simp only [go_sem, hx.rows, hy.rows, List.length_map]
  refine ways (fun e => ?_) (fun e => ?_)
  · simp only [go_sem]
    have hne : a.map flgT ≠ b.map flgT := fun q => by
      have := congrArg List.length q
      simp at this
      simp [this] at e
    (first | refine endA_pure0 ?_ | refine endA_pure ?_ (by rfl)) <;> (simp only [go_sem, decide_eq_false hne] <;> try rfl)
  · have hab : a.length = b.length := by
      have : (a.length : Int) = b.length := by simpa using e
      omega
    simp only [go_sem]
    refine wp_loop_a (by decide) (fun m T h' => h' = h ∧ ∃ k : Nat, k ≤ a.length ∧ (a.map flgT).take k = (b.map flgT).take k ∧ T 0 = x ∧ T 1 = y ∧ T 5 = i64 k ∧ m = a.length - k) a.length
      ⟨rfl, 0, by omega, rfl, by simp only [go_sem], by simp only [go_sem], by (simp only [go_sem] <;> rfl), rfl⟩ ?_
    rintro m T h' ⟨rfl, k, hk, heq, t0, t1, t5, rfl⟩
    simp only [go_sem, t5, t0, hx.rows, List.length_map]
    refine ways (fun e => ?_) (fun e => ?_)
    · have hlt := dlt e
      have hlt2 : k < b.length := by omega
      have ea := hx.at (i := k) (by simpa using hlt)
      have eb := hy.at (i := k) (by simpa using hlt2)
      have ra : (a.map flgC)[k]? = some (flgC a[k]) := by rw [List.getElem?_map, List.getElem?_eq_getElem hlt]; rfl
      have rb : (b.map flgC)[k]? = some (flgC b[k]) := by rw [List.getElem?_map, List.getElem?_eq_getElem hlt2]; rfl
      have ta : (a.map flgT)[k]? = some (flgT a[k]) := by rw [List.getElem?_map, List.getElem?_eq_getElem hlt]; rfl
      have tb : (b.map flgT)[k]? = some (flgT b[k]) := by rw [List.getElem?_map, List.getElem?_eq_getElem hlt2]; rfl
      have la := len_bound hlt
      have lb := len_bound hlt2
      simp only [go_sem]
      refine wp_draw rfl [] 0 [(0, 0, []), (1, 0, []), (4, 0, []), (5, 0, []), (2, 0, []), (3, 0, []), (6, 0, []), (7, 0, []), (8, 0, [])] rfl (by decide) (by decide) ?_
      simp only [go_sem, t5, t0, t1, hx.rows, hy.rows, ea, eb, ra, rb, la, lb, List.length_map, Int.toNat_natCast, Int.natCast_nonneg]
      refine ways (fun e2 => ?_) (fun e2 => ?_)
      · have hne : flgT a[k] ≠ flgT b[k] := fun q => by
          simp only [flgT, Prod.mk.injEq] at q
          simp [q] at e2
        simp only [go_sem]
        (first | refine endA_pure0 ?_ | refine endA_pure ?_ (by rfl)) <;> (simp only [go_sem, decide_eq_false (same_no ta tb hne)] <;> try rfl)
      · have he : flgT a[k] = flgT b[k] := by
          simp only [flgT, Prod.mk.injEq]
          simpa using e2
        simp only [go_sem, t5]
        exact ⟨a.length - (k + 1), by omega, k + 1, by omega, take_snoc heq ta (by rw [he]; exact tb), t0, t1, t_succ (by omega) rfl, rfl⟩
    · have hge := dnlt e
      have hk2 : k = a.length := by omega
      have hall : a.map flgT = b.map flgT := by
        rw [List.take_of_length_le (by simp; omega), List.take_of_length_le (by simp; omega)] at heq
        exact heq
      simp only [go_sem]
      (first | refine endA_pure0 ?_ | refine endA_pure ?_ (by rfl)) <;> (simp only [go_sem, decide_eq_true hall] <;> try rfl)

def spnT (x : Spn) : Int × Int := (x.from_, x.to_)
theorem spnT_inj {x y : Spn} (h : spnT x = spnT y) : x = y := by
  cases x; cases y
  simp only [spnT, Prod.mk.injEq] at h
  simp [h]
theorem c35 (h : List Ob) (x y : AV) (a b : List Spn) (hx : SlOf h x 2 (a.map spnC)) (hy : SlOf h y 2 (b.map spnC)) (hl : a.length < 1099511627776) (hl2 : b.length < 1099511627776) :
    ACalls Tryz.prog 18 [x, y] h fun r h' => r = bl (decide (a.map spnT = b.map spnT)) ∧ h' = h := by
  refine acalls_wp Tryz.f18 [.tmp 4] 26 rfl rfl rfl rfl rfl rfl (by decide) (⟨_, _, ⟨rfl, rfl⟩, .refl⟩) fun B => ?_
  simp only [go_sem, hx.rows, hy.rows, List.length_map]
  refine ways (fun e => ?_) (fun e => ?_)
  · simp only [go_sem]
    have hne : a.map spnT ≠ b.map spnT := fun q => by
      have := congrArg List.length q
      simp at this
      simp [this] at e
    (first | refine endA_pure0 ?_ | refine endA_pure ?_ (by rfl)) <;> (simp only [go_sem, decide_eq_false hne] <;> try rfl)
  · have hab : a.length = b.length := by
      have : (a.length : Int) = b.length := by simpa using e
      omega
    simp only [go_sem]
    refine wp_loop_a (by decide) (fun m T h' => h' = h ∧ ∃ k : Nat, k ≤ a.length ∧ (a.map spnT).take k = (b.map spnT).take k ∧ T 0 = x ∧ T 1 = y ∧ T 5 = i64 k ∧ m = a.length - k) a.length
      ⟨rfl, 0, by omega, rfl, by simp only [go_sem], by simp only [go_sem], by (simp only [go_sem] <;> rfl), rfl⟩ ?_
    rintro m T h' ⟨rfl, k, hk, heq, t0, t1, t5, rfl⟩
    simp only [go_sem, t5, t0, hx.rows, List.length_map]
    refine ways (fun e => ?_) (fun e => ?_)
    · have hlt := dlt e
      have hlt2 : k < b.length := by omega
      have ea := hx.at (i := k) (by simpa using hlt)
      have eb := hy.at (i := k) (by simpa using hlt2)
      have ra : (a.map spnC)[k]? = some (spnC a[k]) := by rw [List.getElem?_map, List.getElem?_eq_getElem hlt]; rfl
      have rb : (b.map spnC)[k]? = some (spnC b[k]) := by rw [List.getElem?_map, List.getElem?_eq_getElem hlt2]; rfl
      have ta : (a.map spnT)[k]? = some (spnT a[k]) := by rw [List.getElem?_map, List.getElem?_eq_getElem hlt]; rfl
      have tb : (b.map spnT)[k]? = some (spnT b[k]) := by rw [List.getElem?_map, List.getElem?_eq_getElem hlt2]; rfl
      have la := len_bound hlt
      have lb := len_bound hlt2
      simp only [go_sem]
      refine wp_draw rfl [] 0 [(0, 0, []), (1, 0, []), (4, 0, []), (5, 0, []), (2, 0, []), (3, 0, []), (6, 0, []), (7, 0, []), (8, 0, [])] rfl (by decide) (by decide) ?_
      simp only [go_sem, t5, t0, t1, hx.rows, hy.rows, ea, eb, ra, rb, la, lb, List.length_map, Int.toNat_natCast, Int.natCast_nonneg]
      refine ways (fun e2 => ?_) (fun e2 => ?_)
      · have hne : spnT a[k] ≠ spnT b[k] := fun q => by
          simp only [spnT, Prod.mk.injEq] at q
          simp [q] at e2
        simp only [go_sem]
        (first | refine endA_pure0 ?_ | refine endA_pure ?_ (by rfl)) <;> (simp only [go_sem, decide_eq_false (same_no ta tb hne)] <;> try rfl)
      · have he : spnT a[k] = spnT b[k] := by
          simp only [spnT, Prod.mk.injEq]
          simpa using e2
        simp only [go_sem, t5]
        exact ⟨a.length - (k + 1), by omega, k + 1, by omega, take_snoc heq ta (by rw [he]; exact tb), t0, t1, t_succ (by omega) rfl, rfl⟩
    · have hge := dnlt e
      have hk2 : k = a.length := by omega
      have hall : a.map spnT = b.map spnT := by
        rw [List.take_of_length_le (by simp; omega), List.take_of_length_le (by simp; omega)] at heq
        exact heq
      simp only [go_sem]
      (first | refine endA_pure0 ?_ | refine endA_pure ?_ (by rfl)) <;> (simp only [go_sem, decide_eq_true hall] <;> try rfl)
end Go.Proofs.YtpdghiplnlhnfaaGreat.Ax

namespace Go.Proofs.YtpdghiplnlhnfaaGreat.Ax
set_option linter.unusedSimpArgs false
set_option linter.unusedVariables false
open Go Go.Proofs
set_option maxRecDepth 100000
set_option linter.unusedSimpArgs false
set_option linter.unusedVariables false
attribute [go_sem] ty22 ty25 ty26 ty27 ty28
def fewS (s : Setup) : Bool := decide (s.ways.length ≤ 100 ∧ s.elements.length ≤ 100 ∧ s.classes.length ≤ 100 ∧ s.gears.length ≤ 100 ∧ s.rates.length ≤ 100 ∧ s.tiers.length ≤ 100)
theorem c25 (h : List Ob) (s : Setup) (a : SA) (k : SIn h s a) : ACalls Tryz.prog 27 [setupV s a] h fun r h' => r = bl (fewS s) ∧ h' = h := by
  have r1 : ∀ M, rowsOf (h ++ M) a.w = _ := fun M => (k.app M).w.rows
  have r2 : ∀ M, rowsOf (h ++ M) a.e = _ := fun M => (k.app M).e.rows
  have r3 : ∀ M, rowsOf (h ++ M) a.c = _ := fun M => (k.app M).c.rows
  have r4 : ∀ M, rowsOf (h ++ M) a.g = _ := fun M => (k.app M).g.rows
  have r5 : ∀ M, rowsOf (h ++ M) a.r = _ := fun M => (k.app M).r.rows
  have r6 : ∀ M, rowsOf (h ++ M) a.t = _ := fun M => (k.app M).t.rows
  refine acalls_wp Tryz.f27 [.tmp 2] 23 rfl rfl rfl rfl rfl rfl (by decide) (⟨_, _, ⟨rfl, rfl⟩, .refl⟩) fun B => ?_
  simp only [go_sem, k.w.one, k.e.one, k.c.one, k.g.one, k.r.one, k.t.one, r1, r2, r3, r4, r5, r6, List.length_map, max_if]
  have hf : decide (max (max (max (max (max (s.ways.length : Int) s.elements.length) s.classes.length) s.gears.length) s.rates.length) (s.tiers.length : Int) ≤ 100) = fewS s := by
    unfold fewS
    exact decide_eq_decide.2 (by omega)
  rw [← hf]
  (first | refine endA_pure0 ?_ | refine endA_pure ?_ (by rfl)) <;> (simp only [go_sem] <;> try rfl)
def fewL (n : Nat) (s : Setup) (l : List Ev) : Bool := fewS s && decide (l.length ≤ n)
theorem c29 (h : List Ob) (s : Setup) (a : SA) (k : SIn h s a) (x : AV) (l : List Ev) (hx : SlOf h x 11 (l.map evC)) : ACalls Tryz.prog 13 [setupV s a, x] h fun r h' => r = bl (fewL 100 s l) ∧ h' = h := by
  refine acalls_wp Tryz.f13 [.tmp 4] 12 rfl rfl rfl rfl rfl rfl (by decide) (⟨_, _, ⟨rfl, rfl⟩, .refl⟩) fun B => ?_
  simp only [go_sem, k.w.one, k.e.one, k.c.one, k.g.one, k.r.one, k.t.one]
  refine call_by (c25 _ s a (k.app _)) ?_
  rintro _ h1 ⟨rfl, e2⟩
  subst e2
  have hr : ∀ M, rowsOf (h ++ M) x = _ := fun M => (hx.app M).rows
  have hle : decide ((l.length : Int) ≤ 100) = decide (l.length ≤ 100) := decide_eq_decide.2 (by omega)
  cases hf : fewS s with
  | false =>
    simp only [go_sem, hf, bq_t]
    (first | refine endA_pure0 ?_ | refine endA_pure ?_ (by rfl)) <;> (simp only [go_sem, fewL, hf, Bool.false_and] <;> try rfl)
  | true =>
    simp only [go_sem, hf, bq_t, hr, List.length_map, hle]
    (first | refine endA_pure0 ?_ | refine endA_pure ?_ (by rfl)) <;> (simp only [go_sem, fewL, hf, Bool.true_and] <;> try rfl)
end Go.Proofs.YtpdghiplnlhnfaaGreat.Ax
