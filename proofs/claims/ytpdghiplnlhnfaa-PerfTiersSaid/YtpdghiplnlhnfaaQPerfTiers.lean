/-
  PerfTiers: whatever the input, the call returns true and leaves its arguments as they were. No condition.
-/
import Derived.Test.YtpdghiplnlhnfaaNH
import Derived.Test.YtpdghiplnlhnfaaMQ
import Derived.Test.YtpdghiplnlhnfaaRows
import Derived.Test.YtpdghiplnlhnfaaNI
import Derived.WalkKit
import Derived.ProofKit
import Derived.OpenShut
import Derived.ShutString
import Derived.ChangeOld
import Derived.Below
import Derived.Deep.Matrix
namespace Go.Proofs.Ytpdghiplnlhnfaa.Ax
set_option linter.unusedSimpArgs false
set_option linter.unusedVariables false
open Go Go.Proofs
set_option maxRecDepth 100000
set_option linter.unusedSimpArgs false
set_option linter.unusedVariables false
set_option maxHeartbeats 4000000 in
theorem c6 (h : List Ob) (s : Setup) (a : SA) (k : SIn h s a) (f0 : SFit0 s) (p q : Rat2) (hp : FitR p) (hq : FitR q) :
    ACalls Try.prog 6 [setupV s a, rat p, rat q] h fun r h' => r = bl true ∧ h' = h := by
  refine acalls_wp Try.f6 [.tmp 6] 100 rfl rfl rfl rfl rfl rfl (by decide) (⟨_, _, ⟨rfl, rfl⟩, .refl⟩) fun B => ?_
  simp only [go_sem, Nat.reduceAdd, Nat.reduceMul, Nat.reduceSub, Nat.reduceLT, Nat.reduceLeDiff, Nat.reduceEqDiff, reduceIte, reduceCtorEq, Int.reduceEq, Int.reduceLT, Int.reduceLE, Int.reduceBEq, Int.reduceToNat, Int.reduceAdd, Int.cast_ofNat_Int, k.w.one, k.e.one, k.c.one, k.g.one, k.r.one, k.t.one]
  refine call_by (c12 _) ?_
  rintro _ h1 ⟨rfl, rfl⟩
  have kM : ∀ M, SIn (h ++ M) s a := fun M => k.app M
  simp only [go_sem, Nat.reduceAdd, Nat.reduceMul, Nat.reduceSub, Nat.reduceLT, Nat.reduceLeDiff, Nat.reduceEqDiff, reduceIte, reduceCtorEq, Int.reduceEq, Int.reduceLT, Int.reduceLE, Int.reduceBEq, Int.reduceToNat, Int.reduceAdd, Int.cast_ofNat_Int, (kM _).w.one, (kM _).e.one, (kM _).c.one, (kM _).g.one, (kM _).r.one, (kM _).t.one]
  refine call_by (c25 _ s a (kM _)) ?_
  rintro _ h1 ⟨rfl, rfl⟩
  cases q1 : fewS s
  · simp only [go_sem, Nat.reduceAdd, Nat.reduceMul, Nat.reduceSub, Nat.reduceLT, Nat.reduceLeDiff, Nat.reduceEqDiff, reduceIte, reduceCtorEq, Int.reduceEq, Int.reduceLT, Int.reduceLE, Int.reduceBEq, Int.reduceToNat, Int.reduceAdd, Int.cast_ofNat_Int, q1, Bool.not_false]
    (first | refine endA_pure0 ?_ | refine endA_pure ?_ (by rfl)) <;> (simp only [go_sem, Nat.reduceAdd, Nat.reduceMul, Nat.reduceSub, Nat.reduceLT, Nat.reduceLeDiff, Nat.reduceEqDiff, reduceIte, reduceCtorEq, Int.reduceEq, Int.reduceLT, Int.reduceLE, Int.reduceBEq, Int.reduceToNat, Int.reduceAdd, Int.cast_ofNat_Int] <;> try rfl)
  have f := f0.few q1
  simp only [go_sem, Nat.reduceAdd, Nat.reduceMul, Nat.reduceSub, Nat.reduceLT, Nat.reduceLeDiff, Nat.reduceEqDiff, reduceIte, reduceCtorEq, Int.reduceEq, Int.reduceLT, Int.reduceLE, Int.reduceBEq, Int.reduceToNat, Int.reduceAdd, Int.cast_ofNat_Int, q1, Bool.not_true, (kM _).w.one, (kM _).e.one, (kM _).c.one, (kM _).g.one, (kM _).r.one, (kM _).t.one]
  refine call_by (c26 _ s a (kM _) f p hp) ?_
  rintro _ h1 ⟨rfl, e1⟩
  rw [e1]
  clear e1 h1
  simp only [go_sem, Nat.reduceAdd, Nat.reduceMul, Nat.reduceSub, Nat.reduceLT, Nat.reduceLeDiff, Nat.reduceEqDiff, reduceIte, reduceCtorEq, Int.reduceEq, Int.reduceLT, Int.reduceLE, Int.reduceBEq, Int.reduceToNat, Int.reduceAdd, Int.cast_ofNat_Int, (kM _).w.one, (kM _).e.one, (kM _).c.one, (kM _).g.one, (kM _).r.one, (kM _).t.one]
  refine call_by (c16 _ s a (kM _) f) ?_
  rintro _ h1 ⟨rfl, e1⟩
  rw [e1]
  clear e1 h1
  cases q2 : setupOk s
  · have ht : tierP s p = -1 := by simp [tierP, q2]
    rw [ht]
    simp only [go_sem, Nat.reduceAdd, Nat.reduceMul, Nat.reduceSub, Nat.reduceLT, Nat.reduceLeDiff, Nat.reduceEqDiff, reduceIte, reduceCtorEq, Int.reduceEq, Int.reduceLT, Int.reduceLE, Int.reduceBEq, Int.reduceToNat, Int.reduceAdd, Int.cast_ofNat_Int, q2, Bool.not_false, bq_t, beq_self_eq_true]
    (first | refine endA_pure0 ?_ | refine endA_pure ?_ (by rfl)) <;> (simp only [go_sem, Nat.reduceAdd, Nat.reduceMul, Nat.reduceSub, Nat.reduceLT, Nat.reduceLeDiff, Nat.reduceEqDiff, reduceIte, reduceCtorEq, Int.reduceEq, Int.reduceLT, Int.reduceLE, Int.reduceBEq, Int.reduceToNat, Int.reduceAdd, Int.cast_ofNat_Int] <;> try rfl)
  simp only [go_sem, Nat.reduceAdd, Nat.reduceMul, Nat.reduceSub, Nat.reduceLT, Nat.reduceLeDiff, Nat.reduceEqDiff, reduceIte, reduceCtorEq, Int.reduceEq, Int.reduceLT, Int.reduceLE, Int.reduceBEq, Int.reduceToNat, Int.reduceAdd, Int.cast_ofNat_Int, q2, Bool.not_true, bq_t]
  refine call_by (c27 p hp.1 hp.2 _) ?_
  rintro _ h1 ⟨rfl, e1⟩
  rw [e1]
  clear e1 h1
  cases q3 : rok p
  · have ht : tierP s p = -1 := by simp [tierP, q3]
    rw [ht]
    simp only [go_sem, Nat.reduceAdd, Nat.reduceMul, Nat.reduceSub, Nat.reduceLT, Nat.reduceLeDiff, Nat.reduceEqDiff, reduceIte, reduceCtorEq, Int.reduceEq, Int.reduceLT, Int.reduceLE, Int.reduceBEq, Int.reduceToNat, Int.reduceAdd, Int.cast_ofNat_Int, q3, Bool.not_false, bq_t, beq_self_eq_true]
    (first | refine endA_pure0 ?_ | refine endA_pure ?_ (by rfl)) <;> (simp only [go_sem, Nat.reduceAdd, Nat.reduceMul, Nat.reduceSub, Nat.reduceLT, Nat.reduceLeDiff, Nat.reduceEqDiff, reduceIte, reduceCtorEq, Int.reduceEq, Int.reduceLT, Int.reduceLE, Int.reduceBEq, Int.reduceToNat, Int.reduceAdd, Int.cast_ofNat_Int] <;> try rfl)
  have hin := (setup_tiers q2).1
  have hlen8 := (setup_tiers q2).2
  obtain ⟨⟨b1, b2⟩, b3, b4⟩ := rok_bound q3
  have rT : ∀ M, rowsOf (h ++ M) a.t = some (s.tiers.map rrow) := fun M => (kM M).t.rows
  have bd : ∀ t ∈ s.tiers, IntKind.wrap .i64 (t.1 * p.2) = t.1 * p.2 := fun t ht => by
    obtain ⟨c1, c2⟩ := hin t ht
    have e1 := Int.mul_nonneg c1 (show 0 ≤ p.2 by omega)
    have e2 := Int.mul_le_mul c2 b2 (by omega) (by omega)
    exact wr_fit (by unfold Fit; omega)
  have bd2 : IntKind.wrap .i64 (100 * p.1) = 100 * p.1 := wr_fit (by unfold Fit; omega)
  have hmono := fun hl => tier_mono (s := s) (p := p) (q := q) q2 hl
  obtain ⟨tv, htv⟩ : ∃ tv, tv = tierP s p := ⟨_, rfl⟩
  have key : -1 ≤ tv ∧ tv < s.tiers.length ∧ (tv = -1 ∨ ∃ (j : Nat) (t : Tier), s.tiers[j]? = some t ∧ tv = (j : Int) ∧ t.1 * p.2 ≤ 100 * p.1) ∧ (tv + 1 = s.tiers.length ∨ ∃ (j : Nat) (t : Tier), s.tiers[j]? = some t ∧ tv + 1 = (j : Int) ∧ ¬ t.1 * p.2 ≤ 100 * p.1) := by
    rw [htv]
    rcases tier_in q2 q3 with ⟨e1, e2⟩ | ⟨j, t, e1, e2, e3, e4⟩
    · rw [e1]
      refine ⟨by omega, by omega, .inl rfl, ?_⟩
      by_cases h0 : s.tiers.length = 0
      · left; omega
      · right
        exact ⟨0, s.tiers[0], List.getElem?_eq_getElem (by omega), by omega, e2 _ (List.getElem_mem _)⟩
    · rw [e2]
      have hj : j < s.tiers.length := (List.getElem?_eq_some_iff.1 e1).1
      refine ⟨by omega, by omega, .inr ⟨j, t, e1, rfl, e3⟩, ?_⟩
      by_cases h1 : j + 1 = s.tiers.length
      · left; omega
      · right
        exact ⟨j + 1, s.tiers[j + 1], List.getElem?_eq_getElem (by omega), by omega, e4 (j + 1) _ (by omega) (List.getElem?_eq_getElem (by omega))⟩
  rw [← htv] at hmono ⊢
  obtain ⟨g1, g2, g3, g4⟩ := key
  have d1 : decide (tv < -1) = false := by simp; omega
  have d2 : decide (tv ≥ (s.tiers.length : Int)) = false := by simp; omega
  have w1 : IntKind.wrap .i64 (tv + 1) = tv + 1 := wr_fit (by unfold Fit; omega)
  simp only [go_sem, Nat.reduceAdd, Nat.reduceMul, Nat.reduceSub, Nat.reduceLT, Nat.reduceLeDiff, Nat.reduceEqDiff, reduceIte, reduceCtorEq, Int.reduceEq, Int.reduceLT, Int.reduceLE, Int.reduceBEq, Int.reduceToNat, Int.reduceAdd, Int.cast_ofNat_Int, q3, Bool.not_true, bq_t, rT, d1, d2, List.length_map]
  refine wp_draw rfl [] 0 [(0, 0, []), (1, 0, []), (2, 0, []), (3, 0, []), (5, 0, []), (9, 0, []), (12, 0, []), (4, 0, []), (6, 0, []), (7, 0, []), (8, 0, []), (10, 0, []), (11, 0, []), (13, 0, []), (14, 0, []), (15, 0, []), (16, 0, []), (17, 0, [])] rfl (by decide) (by decide) ?_
  rcases g3 with g3 | ⟨j, t, c1, rfl, c3⟩
  · have f1 : (tv == -1) = true := by simp [g3]
    simp only [go_sem, Nat.reduceAdd, Nat.reduceMul, Nat.reduceSub, Nat.reduceLT, Nat.reduceLeDiff, Nat.reduceEqDiff, reduceIte, reduceCtorEq, Int.reduceEq, Int.reduceLT, Int.reduceLE, Int.reduceBEq, Int.reduceToNat, Int.reduceAdd, Int.cast_ofNat_Int, (kM _).w.one, (kM _).e.one, (kM _).c.one, (kM _).g.one, (kM _).r.one, (kM _).t.one, rT, bq_t, List.length_map, f1]
    refine wp_draw rfl [] 0 [(0, 0, []), (1, 0, []), (2, 0, []), (3, 0, []), (4, 0, []), (5, 0, []), (6, 0, []), (7, 0, []), (9, 0, []), (10, 0, []), (14, 0, []), (17, 0, []), (8, 0, []), (11, 0, []), (12, 0, []), (13, 0, []), (15, 0, []), (16, 0, []), (18, 0, []), (19, 0, []), (20, 0, []), (21, 0, []), (22, 0, [])] rfl (by decide) (by decide) ?_
    rcases g4 with g4 | ⟨j', t', c1', c2', c3'⟩
    · have f2 : (tv + 1 == (s.tiers.length : Int)) = true := by simp [g4]
      simp only [go_sem, Nat.reduceAdd, Nat.reduceMul, Nat.reduceSub, Nat.reduceLT, Nat.reduceLeDiff, Nat.reduceEqDiff, reduceIte, reduceCtorEq, Int.reduceEq, Int.reduceLT, Int.reduceLE, Int.reduceBEq, Int.reduceToNat, Int.reduceAdd, Int.cast_ofNat_Int, (kM _).w.one, (kM _).e.one, (kM _).c.one, (kM _).g.one, (kM _).r.one, (kM _).t.one, rT, bq_t, List.length_map, w1, f2]
      refine call_by (c20 p q hp hq _) ?_
      rintro _ h1 ⟨rfl, e1⟩
      rw [e1]
      clear e1 h1
      cases q9 : lessR p q
      · simp only [go_sem, Nat.reduceAdd, Nat.reduceMul, Nat.reduceSub, Nat.reduceLT, Nat.reduceLeDiff, Nat.reduceEqDiff, reduceIte, reduceCtorEq, Int.reduceEq, Int.reduceLT, Int.reduceLE, Int.reduceBEq, Int.reduceToNat, Int.reduceAdd, Int.cast_ofNat_Int, (kM _).w.one, (kM _).e.one, (kM _).c.one, (kM _).g.one, (kM _).r.one, (kM _).t.one, rT, bq_t, List.length_map, q9, Bool.not_false]
        (first | refine endA_pure0 ?_ | refine endA_pure ?_ (by rfl)) <;> (simp only [go_sem, Nat.reduceAdd, Nat.reduceMul, Nat.reduceSub, Nat.reduceLT, Nat.reduceLeDiff, Nat.reduceEqDiff, reduceIte, reduceCtorEq, Int.reduceEq, Int.reduceLT, Int.reduceLE, Int.reduceBEq, Int.reduceToNat, Int.reduceAdd, Int.cast_ofNat_Int] <;> try rfl)
      · have hm := hmono q9
        have hmd : decide (tv ≤ tierP s q) = true := by simpa using hm
        simp only [go_sem, Nat.reduceAdd, Nat.reduceMul, Nat.reduceSub, Nat.reduceLT, Nat.reduceLeDiff, Nat.reduceEqDiff, reduceIte, reduceCtorEq, Int.reduceEq, Int.reduceLT, Int.reduceLE, Int.reduceBEq, Int.reduceToNat, Int.reduceAdd, Int.cast_ofNat_Int, (kM _).w.one, (kM _).e.one, (kM _).c.one, (kM _).g.one, (kM _).r.one, (kM _).t.one, rT, bq_t, List.length_map, q9, Bool.not_true]
        refine call_by (c26 _ s a (kM _) f q hq) ?_
        rintro _ h1 ⟨rfl, e1⟩
        rw [e1]
        clear e1 h1
        simp only [go_sem, Nat.reduceAdd, Nat.reduceMul, Nat.reduceSub, Nat.reduceLT, Nat.reduceLeDiff, Nat.reduceEqDiff, reduceIte, reduceCtorEq, Int.reduceEq, Int.reduceLT, Int.reduceLE, Int.reduceBEq, Int.reduceToNat, Int.reduceAdd, Int.cast_ofNat_Int, (kM _).w.one, (kM _).e.one, (kM _).c.one, (kM _).g.one, (kM _).r.one, (kM _).t.one, rT, bq_t, List.length_map, hmd]
        (first | refine endA_pure0 ?_ | refine endA_pure ?_ (by rfl)) <;> (simp only [go_sem, Nat.reduceAdd, Nat.reduceMul, Nat.reduceSub, Nat.reduceLT, Nat.reduceLeDiff, Nat.reduceEqDiff, reduceIte, reduceCtorEq, Int.reduceEq, Int.reduceLT, Int.reduceLE, Int.reduceBEq, Int.reduceToNat, Int.reduceAdd, Int.cast_ofNat_Int] <;> try rfl)
    · have hj' : j' < s.tiers.length := (List.getElem?_eq_some_iff.1 c1').1
      have f2 : (tv + 1 == (s.tiers.length : Int)) = false := by simp <;> omega
      have hrow' : (s.tiers.map rrow)[j']? = some [i64 t'.1, i64 t'.2] := by rw [List.getElem?_map, c1']; rfl
      have hlt' : (j' : Int) < s.tiers.length := by omega
      have hd' : decide (t'.1 * p.2 > 100 * p.1) = true := by simp <;> omega
      have b1' := bd t' (List.mem_of_getElem? c1')
      have w1' : IntKind.wrap .i64 (j' : Int) = j' := by rw [← c2']; exact w1
      have f3 : ((j' : Int) == (s.tiers.length : Int)) = false := by simp <;> omega
      have he' : ∀ M, eOf (h ++ M) a.t = some 2 := fun M => (kM M).t.at (i := j') (by rw [List.length_map]; exact hj')
      simp only [go_sem, Nat.reduceAdd, Nat.reduceMul, Nat.reduceSub, Nat.reduceLT, Nat.reduceLeDiff, Nat.reduceEqDiff, reduceIte, reduceCtorEq, Int.reduceEq, Int.reduceLT, Int.reduceLE, Int.reduceBEq, Int.reduceToNat, Int.reduceAdd, Int.cast_ofNat_Int, (kM _).w.one, (kM _).e.one, (kM _).c.one, (kM _).g.one, (kM _).r.one, (kM _).t.one, rT, bq_t, List.length_map, w1, w1', f2, f3, c2', hrow', hlt', b1', bd2, hd', Int.toNat_natCast, Int.natCast_nonneg, he']
      refine call_by (c20 p q hp hq _) ?_
      rintro _ h1 ⟨rfl, e1⟩
      rw [e1]
      clear e1 h1
      cases q9 : lessR p q
      · simp only [go_sem, Nat.reduceAdd, Nat.reduceMul, Nat.reduceSub, Nat.reduceLT, Nat.reduceLeDiff, Nat.reduceEqDiff, reduceIte, reduceCtorEq, Int.reduceEq, Int.reduceLT, Int.reduceLE, Int.reduceBEq, Int.reduceToNat, Int.reduceAdd, Int.cast_ofNat_Int, (kM _).w.one, (kM _).e.one, (kM _).c.one, (kM _).g.one, (kM _).r.one, (kM _).t.one, rT, bq_t, List.length_map, q9, Bool.not_false]
        (first | refine endA_pure0 ?_ | refine endA_pure ?_ (by rfl)) <;> (simp only [go_sem, Nat.reduceAdd, Nat.reduceMul, Nat.reduceSub, Nat.reduceLT, Nat.reduceLeDiff, Nat.reduceEqDiff, reduceIte, reduceCtorEq, Int.reduceEq, Int.reduceLT, Int.reduceLE, Int.reduceBEq, Int.reduceToNat, Int.reduceAdd, Int.cast_ofNat_Int] <;> try rfl)
      · have hm := hmono q9
        have hmd : decide (tv ≤ tierP s q) = true := by simpa using hm
        simp only [go_sem, Nat.reduceAdd, Nat.reduceMul, Nat.reduceSub, Nat.reduceLT, Nat.reduceLeDiff, Nat.reduceEqDiff, reduceIte, reduceCtorEq, Int.reduceEq, Int.reduceLT, Int.reduceLE, Int.reduceBEq, Int.reduceToNat, Int.reduceAdd, Int.cast_ofNat_Int, (kM _).w.one, (kM _).e.one, (kM _).c.one, (kM _).g.one, (kM _).r.one, (kM _).t.one, rT, bq_t, List.length_map, q9, Bool.not_true]
        refine call_by (c26 _ s a (kM _) f q hq) ?_
        rintro _ h1 ⟨rfl, e1⟩
        rw [e1]
        clear e1 h1
        simp only [go_sem, Nat.reduceAdd, Nat.reduceMul, Nat.reduceSub, Nat.reduceLT, Nat.reduceLeDiff, Nat.reduceEqDiff, reduceIte, reduceCtorEq, Int.reduceEq, Int.reduceLT, Int.reduceLE, Int.reduceBEq, Int.reduceToNat, Int.reduceAdd, Int.cast_ofNat_Int, (kM _).w.one, (kM _).e.one, (kM _).c.one, (kM _).g.one, (kM _).r.one, (kM _).t.one, rT, bq_t, List.length_map, hmd]
        (first | refine endA_pure0 ?_ | refine endA_pure ?_ (by rfl)) <;> (simp only [go_sem, Nat.reduceAdd, Nat.reduceMul, Nat.reduceSub, Nat.reduceLT, Nat.reduceLeDiff, Nat.reduceEqDiff, reduceIte, reduceCtorEq, Int.reduceEq, Int.reduceLT, Int.reduceLE, Int.reduceBEq, Int.reduceToNat, Int.reduceAdd, Int.cast_ofNat_Int] <;> try rfl)
  · have hj : j < s.tiers.length := (List.getElem?_eq_some_iff.1 c1).1
    have f1 : ((j : Int) == -1) = false := by simp <;> omega
    have hrow : (s.tiers.map rrow)[j]? = some [i64 t.1, i64 t.2] := by rw [List.getElem?_map, c1]; rfl
    have hlt : (j : Int) < s.tiers.length := by omega
    have he : ∀ M, eOf (h ++ M) a.t = some 2 := fun M => (kM M).t.at (i := j) (by rw [List.length_map]; exact hj)
    have hd : decide (t.1 * p.2 ≤ 100 * p.1) = true := by simpa using c3
    have b1 := bd t (List.mem_of_getElem? c1)
    simp only [go_sem, Nat.reduceAdd, Nat.reduceMul, Nat.reduceSub, Nat.reduceLT, Nat.reduceLeDiff, Nat.reduceEqDiff, reduceIte, reduceCtorEq, Int.reduceEq, Int.reduceLT, Int.reduceLE, Int.reduceBEq, Int.reduceToNat, Int.reduceAdd, Int.cast_ofNat_Int, (kM _).w.one, (kM _).e.one, (kM _).c.one, (kM _).g.one, (kM _).r.one, (kM _).t.one, rT, bq_t, List.length_map, f1, hrow, hlt, b1, bd2, hd, Int.toNat_natCast, Int.natCast_nonneg, he]
    refine wp_draw rfl [] 0 [(0, 0, []), (1, 0, []), (2, 0, []), (3, 0, []), (4, 0, []), (5, 0, []), (6, 0, []), (7, 0, []), (9, 0, []), (10, 0, []), (14, 0, []), (17, 0, []), (8, 0, []), (11, 0, []), (12, 0, []), (13, 0, []), (15, 0, []), (16, 0, []), (18, 0, []), (19, 0, []), (20, 0, []), (21, 0, []), (22, 0, [])] rfl (by decide) (by decide) ?_
    rcases g4 with g4 | ⟨j', t', c1', c2', c3'⟩
    · have f2 : ((j : Int) + 1 == (s.tiers.length : Int)) = true := by simp [g4]
      simp only [go_sem, Nat.reduceAdd, Nat.reduceMul, Nat.reduceSub, Nat.reduceLT, Nat.reduceLeDiff, Nat.reduceEqDiff, reduceIte, reduceCtorEq, Int.reduceEq, Int.reduceLT, Int.reduceLE, Int.reduceBEq, Int.reduceToNat, Int.reduceAdd, Int.cast_ofNat_Int, (kM _).w.one, (kM _).e.one, (kM _).c.one, (kM _).g.one, (kM _).r.one, (kM _).t.one, rT, bq_t, List.length_map, w1, f2]
      refine call_by (c20 p q hp hq _) ?_
      rintro _ h1 ⟨rfl, e1⟩
      rw [e1]
      clear e1 h1
      cases q9 : lessR p q
      · simp only [go_sem, Nat.reduceAdd, Nat.reduceMul, Nat.reduceSub, Nat.reduceLT, Nat.reduceLeDiff, Nat.reduceEqDiff, reduceIte, reduceCtorEq, Int.reduceEq, Int.reduceLT, Int.reduceLE, Int.reduceBEq, Int.reduceToNat, Int.reduceAdd, Int.cast_ofNat_Int, (kM _).w.one, (kM _).e.one, (kM _).c.one, (kM _).g.one, (kM _).r.one, (kM _).t.one, rT, bq_t, List.length_map, q9, Bool.not_false]
        (first | refine endA_pure0 ?_ | refine endA_pure ?_ (by rfl)) <;> (simp only [go_sem, Nat.reduceAdd, Nat.reduceMul, Nat.reduceSub, Nat.reduceLT, Nat.reduceLeDiff, Nat.reduceEqDiff, reduceIte, reduceCtorEq, Int.reduceEq, Int.reduceLT, Int.reduceLE, Int.reduceBEq, Int.reduceToNat, Int.reduceAdd, Int.cast_ofNat_Int] <;> try rfl)
      · have hm := hmono q9
        have hmd : decide ((j : Int) ≤ tierP s q) = true := by simpa using hm
        simp only [go_sem, Nat.reduceAdd, Nat.reduceMul, Nat.reduceSub, Nat.reduceLT, Nat.reduceLeDiff, Nat.reduceEqDiff, reduceIte, reduceCtorEq, Int.reduceEq, Int.reduceLT, Int.reduceLE, Int.reduceBEq, Int.reduceToNat, Int.reduceAdd, Int.cast_ofNat_Int, (kM _).w.one, (kM _).e.one, (kM _).c.one, (kM _).g.one, (kM _).r.one, (kM _).t.one, rT, bq_t, List.length_map, q9, Bool.not_true]
        refine call_by (c26 _ s a (kM _) f q hq) ?_
        rintro _ h1 ⟨rfl, e1⟩
        rw [e1]
        clear e1 h1
        simp only [go_sem, Nat.reduceAdd, Nat.reduceMul, Nat.reduceSub, Nat.reduceLT, Nat.reduceLeDiff, Nat.reduceEqDiff, reduceIte, reduceCtorEq, Int.reduceEq, Int.reduceLT, Int.reduceLE, Int.reduceBEq, Int.reduceToNat, Int.reduceAdd, Int.cast_ofNat_Int, (kM _).w.one, (kM _).e.one, (kM _).c.one, (kM _).g.one, (kM _).r.one, (kM _).t.one, rT, bq_t, List.length_map, hmd]
        (first | refine endA_pure0 ?_ | refine endA_pure ?_ (by rfl)) <;> (simp only [go_sem, Nat.reduceAdd, Nat.reduceMul, Nat.reduceSub, Nat.reduceLT, Nat.reduceLeDiff, Nat.reduceEqDiff, reduceIte, reduceCtorEq, Int.reduceEq, Int.reduceLT, Int.reduceLE, Int.reduceBEq, Int.reduceToNat, Int.reduceAdd, Int.cast_ofNat_Int] <;> try rfl)
    · have hj' : j' < s.tiers.length := (List.getElem?_eq_some_iff.1 c1').1
      have f2 : ((j : Int) + 1 == (s.tiers.length : Int)) = false := by simp <;> omega
      have hrow' : (s.tiers.map rrow)[j']? = some [i64 t'.1, i64 t'.2] := by rw [List.getElem?_map, c1']; rfl
      have hlt' : (j' : Int) < s.tiers.length := by omega
      have hd' : decide (t'.1 * p.2 > 100 * p.1) = true := by simp <;> omega
      have b1' := bd t' (List.mem_of_getElem? c1')
      have w1' : IntKind.wrap .i64 (j' : Int) = j' := by rw [← c2']; exact w1
      have f3 : ((j' : Int) == (s.tiers.length : Int)) = false := by simp <;> omega
      have he' : ∀ M, eOf (h ++ M) a.t = some 2 := fun M => (kM M).t.at (i := j') (by rw [List.length_map]; exact hj')
      simp only [go_sem, Nat.reduceAdd, Nat.reduceMul, Nat.reduceSub, Nat.reduceLT, Nat.reduceLeDiff, Nat.reduceEqDiff, reduceIte, reduceCtorEq, Int.reduceEq, Int.reduceLT, Int.reduceLE, Int.reduceBEq, Int.reduceToNat, Int.reduceAdd, Int.cast_ofNat_Int, (kM _).w.one, (kM _).e.one, (kM _).c.one, (kM _).g.one, (kM _).r.one, (kM _).t.one, rT, bq_t, List.length_map, w1, w1', f2, f3, c2', hrow', hlt', b1', bd2, hd', Int.toNat_natCast, Int.natCast_nonneg, he']
      refine call_by (c20 p q hp hq _) ?_
      rintro _ h1 ⟨rfl, e1⟩
      rw [e1]
      clear e1 h1
      cases q9 : lessR p q
      · simp only [go_sem, Nat.reduceAdd, Nat.reduceMul, Nat.reduceSub, Nat.reduceLT, Nat.reduceLeDiff, Nat.reduceEqDiff, reduceIte, reduceCtorEq, Int.reduceEq, Int.reduceLT, Int.reduceLE, Int.reduceBEq, Int.reduceToNat, Int.reduceAdd, Int.cast_ofNat_Int, (kM _).w.one, (kM _).e.one, (kM _).c.one, (kM _).g.one, (kM _).r.one, (kM _).t.one, rT, bq_t, List.length_map, q9, Bool.not_false]
        (first | refine endA_pure0 ?_ | refine endA_pure ?_ (by rfl)) <;> (simp only [go_sem, Nat.reduceAdd, Nat.reduceMul, Nat.reduceSub, Nat.reduceLT, Nat.reduceLeDiff, Nat.reduceEqDiff, reduceIte, reduceCtorEq, Int.reduceEq, Int.reduceLT, Int.reduceLE, Int.reduceBEq, Int.reduceToNat, Int.reduceAdd, Int.cast_ofNat_Int] <;> try rfl)
      · have hm := hmono q9
        have hmd : decide ((j : Int) ≤ tierP s q) = true := by simpa using hm
        simp only [go_sem, Nat.reduceAdd, Nat.reduceMul, Nat.reduceSub, Nat.reduceLT, Nat.reduceLeDiff, Nat.reduceEqDiff, reduceIte, reduceCtorEq, Int.reduceEq, Int.reduceLT, Int.reduceLE, Int.reduceBEq, Int.reduceToNat, Int.reduceAdd, Int.cast_ofNat_Int, (kM _).w.one, (kM _).e.one, (kM _).c.one, (kM _).g.one, (kM _).r.one, (kM _).t.one, rT, bq_t, List.length_map, q9, Bool.not_true]
        refine call_by (c26 _ s a (kM _) f q hq) ?_
        rintro _ h1 ⟨rfl, e1⟩
        rw [e1]
        clear e1 h1
        simp only [go_sem, Nat.reduceAdd, Nat.reduceMul, Nat.reduceSub, Nat.reduceLT, Nat.reduceLeDiff, Nat.reduceEqDiff, reduceIte, reduceCtorEq, Int.reduceEq, Int.reduceLT, Int.reduceLE, Int.reduceBEq, Int.reduceToNat, Int.reduceAdd, Int.cast_ofNat_Int, (kM _).w.one, (kM _).e.one, (kM _).c.one, (kM _).g.one, (kM _).r.one, (kM _).t.one, rT, bq_t, List.length_map, hmd]
        (first | refine endA_pure0 ?_ | refine endA_pure ?_ (by rfl)) <;> (simp only [go_sem, Nat.reduceAdd, Nat.reduceMul, Nat.reduceSub, Nat.reduceLT, Nat.reduceLeDiff, Nat.reduceEqDiff, reduceIte, reduceCtorEq, Int.reduceEq, Int.reduceLT, Int.reduceLE, Int.reduceBEq, Int.reduceToNat, Int.reduceAdd, Int.cast_ofNat_Int] <;> try rfl)
end Go.Proofs.Ytpdghiplnlhnfaa.Ax

namespace Go.Proofs.Ytpdghiplnlhnfaa.perfTiers
set_option linter.unusedSimpArgs false
set_option linter.unusedVariables false
open Go.ChangeShapes Go.WideShapes Go.ChangeAt Go.RowKit
open Go.ChangeMaps (open_string shut_string)
set_option linter.unusedVariables false

theorem own : ownKnob Try.prog.godebug = none := by kernel_rfl
theorem laidOut : laidOutB Try.prog = true := by kernel_rfl

/-- A slice of integers that came in. -/
def IsRow (k : IntKind) (w : World) (a : Option Addr) (len cap : Nat) (zs : List Int) : Prop :=
  (a = none ∧ len = 0 ∧ cap = 0 ∧ zs = []) ∨
  ∃ x, a = some x ∧ len ≤ cap ∧ cap ≤ maxLen ∧ zs.length = cap ∧ (∀ i, i < zs.length → w.cell? (x.add i) = some (.int k (zs.getD i 0))) ∧ ∀ n ∈ zs, (Lit.int k n).wf = true

/-! ### The walk. -/
theorem walk (x0 : Value) (x1 : Value) (x2 : Value) (w : World) (w0 : Ax.InSet w x0) (w1 : Ax.InRat x1) (w2 : Ax.InRat x2) :
    Calls Try.prog 6 #[x0, x1, x2] w fun e w' => e = .returned (.bool true) ∧ Below w.heap.size w w' := by
  obtain ⟨s, a, ha, ks, fs⟩ := w0
  obtain ⟨p, rfl, fp⟩ := w1
  obtain ⟨q, rfl, fq⟩ := w2
  exact Ax.run_law (Ax.c6 [] s a ks fs p q fp fq) ⟨_, _, rfl, ha, _, _, rfl, Ax.InRat.ar, _, _, rfl, Ax.InRat.ar, rfl⟩

/-! ### The row's step. -/
set_option maxRecDepth 100000 in
theorem lifted (os : Os) (started : os.Started) (H : Type) (enc : TypeId × Value → H) :
    ReturnsInHanded {} Try.checked os 6 .any (Rows.perfTiersSpec.pre6 enc Try.prog Try.f6 Rows.perfTiersRow.domain false) (Rows.perfTiersSpec.post enc Try.prog Try.f6 false true false false) := by
  refine returnsInHanded_of_change (C := Try.checked) own started (by kernel_rfl) Try.func6
    (ChangeSpec.witness6 (enc := enc) (C := Try.checked) false ⟨#[], #[.agg #[.int .i64 0, .slice none 0 0, .int .i64 0, .int .i64 0, .slice none 0 0, .slice none 0 0, .slice none 0 0, .int .i64 0, .int .i64 0, .int .i64 0, .int .i64 0, .int .i64 0, .int .i64 0, .int .i64 0, .int .i64 0, .int .i64 0, .int .i64 0, .int .i64 0, .slice none 0 0, .int .i64 0, .int .i64 0, .int .i64 0, .slice none 0 0], .agg #[.int .i64 0, .int .i64 0], .agg #[.int .i64 0, .int .i64 0]], []⟩ 8 (by kernel_rfl) (by kernel_rfl) (by kernel_rfl) (by kernel_rfl)) ?_
  intro W base args ds gs before hval0 hW hcnd _
  have hval : ∀ (j : Nat) t v, Try.f6.params[j]? = some t → args[j]? = some v → Value.okWide Try.prog W .any base t v := hval0
  have hW' := hW
  obtain ⟨p, q, hA0, hV, rfl, hfz, hnd⟩ := hW
  have hA : DataW.TrodAll enc Try.prog W 0 (fun _ => true) true Try.f6.params.toList args.toList ds p := hA0
  rw [Try.params6] at hA hval
  obtain ⟨v0, vs0, d0, ds0, p0, q0, hargs, rfl, rfl, h0, r0⟩ := trodAll_cons hA
  obtain ⟨v1, vs1, d1, ds1, p1, q1, rfl, rfl, rfl, h1, r1⟩ := trodAll_cons r0
  obtain ⟨v2, vs2, d2, ds2, p2, q2, rfl, rfl, rfl, h2, r2⟩ := trodAll_cons r1
  obtain ⟨rfl, rfl, rfl⟩ := trodAll_nil r2
  obtain rfl : args = #[v0, v1, v2] := by cases args; simp_all
  obtain ⟨rfl, rfl⟩ := trodVars_none hV
  have k0 := h0
  have lt0 : ∀ x ∈ p0, x.block < W.heap.size := by obtain ⟨m, hm⟩ := k0; exact DataW.trod_lt m _ _ _ hm
  have w0 := Ax.setup_in (hval 0 30 v0 rfl rfl) h0
  have k1 := h1
  have lt1 : ∀ x ∈ p1, x.block < W.heap.size := by obtain ⟨m, hm⟩ := k1; exact DataW.trod_lt m _ _ _ hm
  have w1 := Ax.ratV_in (hval 1 24 v1 rfl rfl) h1
  have k2 := h2
  have lt2 : ∀ x ∈ p2, x.block < W.heap.size := by obtain ⟨m, hm⟩ := k2; exact DataW.trod_lt m _ _ _ hm
  have w2 := Ax.ratV_in (hval 2 24 v2 rfl rfl) h2
  clear hA0 hval0
  refine (walk v0 v1 v2 W w0 w1 w2).mono fun e W' ⟨he, bel⟩ => ?_
  subst he
  exact ⟨_, rfl, _, _, _, [], _, [], hW', trodAll_mk1 (shut_bool Try.underlying4 _), (trodAll_cons_mk (Below.trod laidOut (by kernel_rfl) (of_decide_eq_true (by kernel_rfl)) k0 bel lt0) (trodAll_cons_mk (Below.trod laidOut (by kernel_rfl) (of_decide_eq_true (by kernel_rfl)) k1 bel lt1) (trodAll_cons_mk (Below.trod laidOut (by kernel_rfl) (of_decide_eq_true (by kernel_rfl)) k2 bel lt2) trodAll_mk0))), rfl, bel.frame _, fun h => by cases h⟩

theorem over : Rows.perfTiersRow.holds Try.pinned (OpenSpec.ofChange Rows.perfTiersSpec) :=
  OpenClaim.holds_of_wide 6 Try.f6 rfl rfl rfl rfl rfl rfl rfl ⟨rfl, rfl, rfl, rfl, rfl⟩ rfl rfl rfl rfl rfl (by kernel_rfl) Try.func6 (by kernel_rfl)
    (of_decide_eq_true (by kernel_rfl)) (by unfold Func.isWrapper; first | (rw [if_pos (by decide +kernel)]; kernel_rfl) | (rw [if_neg (by decide +kernel)]; exact ⟨rfl, rfl⟩))
    (fun os started H enc _ => lifted os started H enc)

/-- The statement. -/
theorem proved : Rows.PerfTiersSaid := over
#print axioms proved
end Go.Proofs.Ytpdghiplnlhnfaa.perfTiers
