/-
  Joined: Awk2. Nothing is proved here of a statement.
-/
import Derived.Test.YtpdghiplnlhnfaaGreatNG
import Derived.Test.YtpdghiplnlhnfaaGreatNE
namespace Go.Proofs.YtpdghiplnlhnfaaGreat.Ax
set_option linter.unusedSimpArgs false
set_option linter.unusedVariables false
open Go Go.Proofs
set_option maxRecDepth 100000
set_option linter.unusedSimpArgs false
set_option linter.unusedVariables false
attribute [go_sem] ty81 ty28
def s1 : Setup := ⟨1, [], (1, 1), [((1, 1), (1, 1))], [(1, 1)], [(1, 1)], 0, 1, 3600, 0, 0, 0, 0, 0, 0, 0, 0, [1], 0, 0, 60, [(10, 1), (60, 2)]⟩
def l1 : List Ev := [⟨1, 0, 0, 1, 0, 0, 0, 0, 0, 0, 0⟩, ⟨2, 0, 100, 3, 0, 0, 0, 299, 0, 0, 0⟩, ⟨3, 0, 400, 3, 0, 0, 0, 119, 0, 0, 0⟩, ⟨4, 0, 500, 7, 0, 0, 0, 0, 0, 0, 0⟩, ⟨5, 0, 700, 2, 0, 0, 0, 0, 0, 0, 0⟩]
theorem perf0 : perfP s1 l1 0 0 = ⟨(360, 1), 600, (3, 5), 0⟩ := by kernel_rfl
theorem perf1 : perfP s1 l1 0 1 = ⟨(0, 1), 0, (0, 1), 0⟩ := by kernel_rfl
theorem tier0 : tierP s1 (3, 5) = 1 := by kernel_rfl
theorem tier1 : tierP s1 (59, 100) = 0 := by kernel_rfl
theorem tier2 : tierP s1 (0, 1) = -1 := by kernel_rfl
theorem fit1 : SFit s1 := ⟨by simp [Fit, s1], by simp [FitR, Fit, s1], by simp [FitR, Fit, s1], by simp [FitR, Fit, s1], by simp [FitR, Fit, s1], by simp [FitR, Fit, s1], by simp [s1], by simp [s1], by simp [s1], by simp [s1], by simp [s1], by simp [s1]⟩
theorem c13 (h : List Ob) (s : Setup) (a : SA) (k : SIn h s a) (x : AV) (l : List Ev) (hx : SlOf h x 11 (l.map evC)) : ACalls Tryz.prog 7 [setupV s a, x] h fun r h' => r = bl (fewL 60 s l) ∧ h' = h := by
  refine acalls_wp Tryz.f7 [.tmp 4] 12 rfl rfl rfl rfl rfl rfl (by decide) (⟨_, _, ⟨rfl, rfl⟩, .refl⟩) fun B => ?_
  simp only [go_sem, k.w.one, k.e.one, k.c.one, k.g.one, k.r.one, k.t.one]
  refine call_by (c25 _ s a (k.app _)) ?_
  rintro _ h1 ⟨rfl, e2⟩
  subst e2
  have hr : ∀ M, rowsOf (h ++ M) x = _ := fun M => (hx.app M).rows
  have hle : decide ((l.length : Int) ≤ 60) = decide (l.length ≤ 60) := decide_eq_decide.2 (by omega)
  cases hf : fewS s with
  | false =>
    simp only [go_sem, hf, bq_t]
    (first | refine endA_pure0 ?_ | refine endA_pure ?_ (by rfl)) <;> (simp only [go_sem, fewL, hf, Bool.false_and] <;> try rfl)
  | true =>
    simp only [go_sem, hf, bq_t, hr, List.length_map, hle]
    (first | refine endA_pure0 ?_ | refine endA_pure ?_ (by rfl)) <;> (simp only [go_sem, fewL, hf, Bool.true_and] <;> try rfl)
def a1 (n : Nat) : SA := ⟨.v (.slice none 0 0), .tl (n + 2) 0, .tl (n + 3) 0, .tl (n + 4) 0, .tl (n + 5) 0, .tl (n + 6) 0⟩
def H1 (n : Nat) : List Ob := [.box 30 (setupC s1 (a1 n)), .box 24 (rrow (1, 1)), .row 84 4 (s1.elements.map erow) 0, .row 24 2 (s1.classes.map rrow) 0, .row 24 2 (s1.gears.map rrow) 0, .row 3 1 (s1.rates.map irow) 0, .row 81 2 (s1.tiers.map rrow) 0]
theorem get_h1 (h : List Ob) (k : Nat) : (h ++ H1 h.length)[h.length + k]? = (H1 h.length)[k]? := get_new rfl
theorem sin1 (h : List Ob) : SIn (h ++ H1 h.length) s1 (a1 h.length) :=
  ⟨sl_nil, sl_row (get_h1 h 2), sl_row (get_h1 h 3), sl_row (get_h1 h 4), sl_row (get_h1 h 5), sl_row (get_h1 h 6)⟩
theorem c37 (h : List Ob) : ACalls Tryz.prog 26 [] h fun r h' => r = setupV s1 (a1 h.length) ∧ h' = h ++ H1 h.length := by
  refine acalls_wp Tryz.f26 [.cell 0 30] 17 rfl rfl rfl rfl rfl rfl (by decide) (⟨_, _, ⟨rfl, rfl⟩, resK_app⟩) fun B => ?_
  simp only [go_sem]
  exact ⟨setupV s1 (a1 h.length), by (simp only [go_sem] <;> rfl), .inl ⟨rfl, rfl⟩⟩
theorem c12 : Pure Tryz.prog 6 [] (bl true) := fun h => by
  refine acalls_wp Tryz.f6 [.tmp 0] 86 rfl rfl rfl rfl rfl rfl (by decide) (⟨_, _, ⟨rfl, rfl⟩, .refl⟩) fun B => ?_
  simp only [go_sem]
  refine call_by (c37 _) ?_
  rintro _ h4 ⟨rfl, e4⟩
  have k := sin1 h
  rw [← e4] at k
  have hp4 : Pre h h4 := ⟨_, e4, fun o ho => by
    simp only [H1, List.mem_cons, List.not_mem_nil, or_false] at ho
    rcases ho with rfl | rfl | rfl | rfl | rfl | rfl | rfl <;> rfl⟩
  have kM : ∀ M, SIn (h4 ++ M) s1 (a1 h.length) := fun M => k.app M
  simp only [go_sem, (kM _).w.one, (kM _).e.one, (kM _).c.one, (kM _).g.one, (kM _).r.one, (kM _).t.one, k.w.one, k.e.one, k.c.one, k.g.one, k.r.one, k.t.one]
  refine call_by (c15 _ s1 (a1 h.length) (kM _) fit1 _ l1 0 0 (sl_row (ty := 61) (st := 0) (by rw [get_new (k := 1) rfl]; rfl)) (by decide)) ?_
  rintro _ h5 ⟨rfl, e5⟩
  rw [e5, perf0]
  clear e5 h5
  simp only [go_sem, (kM _).w.one, (kM _).e.one, (kM _).c.one, (kM _).g.one, (kM _).r.one, (kM _).t.one]
  refine call_by (c15 _ s1 (a1 h.length) (kM _) fit1 _ l1 0 1 (sl_row (ty := 61) (st := 0) (by rw [get_new (k := 1) rfl]; rfl)) (by decide)) ?_
  rintro _ h5 ⟨rfl, e5⟩
  rw [e5, perf1]
  clear e5 h5
  simp only [go_sem, (kM _).w.one, (kM _).e.one, (kM _).c.one, (kM _).g.one, (kM _).r.one, (kM _).t.one, bne_self_eq_false, beq_self_eq_true, bq_t, Bool.not_false, Bool.not_true]
  refine call_by (c26 _ s1 (a1 h.length) (kM _) fit1 (3, 5) ⟨by simp [Fit], by simp [Fit]⟩) ?_
  rintro _ h5 ⟨rfl, e5⟩
  rw [e5, tier0]
  clear e5 h5
  simp only [go_sem, (kM _).w.one, (kM _).e.one, (kM _).c.one, (kM _).g.one, (kM _).r.one, (kM _).t.one, bne_self_eq_false, beq_self_eq_true, bq_t, Bool.not_false, Bool.not_true]
  refine call_by (c26 _ s1 (a1 h.length) (kM _) fit1 (59, 100) ⟨by simp [Fit], by simp [Fit]⟩) ?_
  rintro _ h5 ⟨rfl, e5⟩
  rw [e5, tier1]
  clear e5 h5
  simp only [go_sem, (kM _).w.one, (kM _).e.one, (kM _).c.one, (kM _).g.one, (kM _).r.one, (kM _).t.one, bne_self_eq_false, beq_self_eq_true, bq_t, Bool.not_false, Bool.not_true]
  refine call_by (c26 _ s1 (a1 h.length) (kM _) fit1 (0, 1) ⟨by simp [Fit], by simp [Fit]⟩) ?_
  rintro _ h5 ⟨rfl, e5⟩
  rw [e5, tier2]
  clear e5 h5
  simp only [go_sem, (kM _).w.one, (kM _).e.one, (kM _).c.one, (kM _).g.one, (kM _).r.one, (kM _).t.one, bne_self_eq_false, beq_self_eq_true, bq_t, Bool.not_false, Bool.not_true]
  obtain ⟨L, hL, _⟩ := hp4
  rw [hL, List.append_assoc]
  (first | refine endA_pure0 ?_ | refine endA_pure ?_ (by rfl)) <;> (simp only [go_sem] <;> try rfl)
end Go.Proofs.YtpdghiplnlhnfaaGreat.Ax
