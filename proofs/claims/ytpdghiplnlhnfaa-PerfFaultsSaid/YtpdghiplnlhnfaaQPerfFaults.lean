/-
  PerfFaults: whatever the input, the call returns true and leaves its arguments as they were. No condition.
-/
import Derived.Test.YtpdghiplnlhnfaaNH
import Derived.Test.YtpdghiplnlhnfaaMQ
import Derived.Test.YtpdghiplnlhnfaaNK
import Derived.Test.YtpdghiplnlhnfaaRows
import Derived.Test.YtpdghiplnlhnfaaNJ
import Derived.WalkKit
import Derived.ProofKit
import Derived.OpenShut
import Derived.ShutString
import Derived.ChangeOld
import Derived.Below
import Derived.Deep.Matrix
namespace Go.Proofs.Ytpdghiplnlhnfaa.Ax
set_option linter.unusedSimpArgs false
set_option linter.unusedVariables false
open Go Go.Proofs
set_option maxRecDepth 100000
set_option linter.unusedSimpArgs false
set_option linter.unusedVariables false
set_option maxHeartbeats 4000000 in
theorem c4 (h : List Ob) (s : Setup) (a : SA) (k : SIn h s a) (f0 : SFit0 s) (x : AV) (l : List Ev) (hx : SlOf h x 11 (l.map evC)) (e : Ev) (wk : Int) :
    ACalls Try.prog 4 [setupV s a, x, evV e, i64 wk] h fun r h' => r = bl true ∧ h' = h := by
  refine acalls_wp Try.f4 [.tmp 8] 158 rfl rfl rfl rfl rfl rfl (by decide) (⟨_, _, ⟨rfl, rfl⟩, .refl⟩) fun B => ?_
  simp only [go_sem, Nat.reduceAdd, Nat.reduceMul, Nat.reduceSub, Nat.reduceLT, Nat.reduceLeDiff, Nat.reduceEqDiff, reduceIte, reduceCtorEq, Int.reduceEq, Int.reduceLT, Int.reduceLE, Int.reduceBEq, Int.reduceToNat, Int.reduceAdd, Int.cast_ofNat_Int, k.w.one, k.e.one, k.c.one, k.g.one, k.r.one, k.t.one]
  refine call_by (c12 _) ?_
  rintro _ h1 ⟨rfl, rfl⟩
  have kM : ∀ M, SIn (h ++ M) s a := fun M => k.app M
  simp only [go_sem, Nat.reduceAdd, Nat.reduceMul, Nat.reduceSub, Nat.reduceLT, Nat.reduceLeDiff, Nat.reduceEqDiff, reduceIte, reduceCtorEq, Int.reduceEq, Int.reduceLT, Int.reduceLE, Int.reduceBEq, Int.reduceToNat, Int.reduceAdd, Int.cast_ofNat_Int, (kM _).w.one, (kM _).e.one, (kM _).c.one, (kM _).g.one, (kM _).r.one, (kM _).t.one]
  refine call_by (c13 _ s a (kM _) x l (hx.app _)) ?_
  rintro _ h1 ⟨rfl, rfl⟩
  cases q1 : fewL 60 s l
  · simp only [go_sem, Nat.reduceAdd, Nat.reduceMul, Nat.reduceSub, Nat.reduceLT, Nat.reduceLeDiff, Nat.reduceEqDiff, reduceIte, reduceCtorEq, Int.reduceEq, Int.reduceLT, Int.reduceLE, Int.reduceBEq, Int.reduceToNat, Int.reduceAdd, Int.cast_ofNat_Int, q1, Bool.not_false, bq_t]
    (first | refine endA_pure0 ?_ | refine endA_pure ?_ (by rfl)) <;> (simp only [go_sem, Nat.reduceAdd, Nat.reduceMul, Nat.reduceSub, Nat.reduceLT, Nat.reduceLeDiff, Nat.reduceEqDiff, reduceIte, reduceCtorEq, Int.reduceEq, Int.reduceLT, Int.reduceLE, Int.reduceBEq, Int.reduceToNat, Int.reduceAdd, Int.cast_ofNat_Int] <;> try rfl)
  have q1' := q1
  simp only [fewL, Bool.and_eq_true, decide_eq_true_eq] at q1'
  obtain ⟨e1, hl⟩ := q1'
  have f := f0.few e1
  simp only [go_sem, Nat.reduceAdd, Nat.reduceMul, Nat.reduceSub, Nat.reduceLT, Nat.reduceLeDiff, Nat.reduceEqDiff, reduceIte, reduceCtorEq, Int.reduceEq, Int.reduceLT, Int.reduceLE, Int.reduceBEq, Int.reduceToNat, Int.reduceAdd, Int.cast_ofNat_Int, q1, Bool.not_true, bq_t, (kM _).w.one, (kM _).e.one, (kM _).c.one, (kM _).g.one, (kM _).r.one, (kM _).t.one]
  refine call_by (c16 _ s a (kM _) f) ?_
  rintro _ h1 ⟨rfl, e2⟩
  rw [e2]
  clear e2 h1
  cases q2 : setupOk s
  · simp only [go_sem, Nat.reduceAdd, Nat.reduceMul, Nat.reduceSub, Nat.reduceLT, Nat.reduceLeDiff, Nat.reduceEqDiff, reduceIte, reduceCtorEq, Int.reduceEq, Int.reduceLT, Int.reduceLE, Int.reduceBEq, Int.reduceToNat, Int.reduceAdd, Int.cast_ofNat_Int, q2, Bool.not_false, bq_t]
    (first | refine endA_pure0 ?_ | refine endA_pure ?_ (by rfl)) <;> (simp only [go_sem, Nat.reduceAdd, Nat.reduceMul, Nat.reduceSub, Nat.reduceLT, Nat.reduceLeDiff, Nat.reduceEqDiff, reduceIte, reduceCtorEq, Int.reduceEq, Int.reduceLT, Int.reduceLE, Int.reduceBEq, Int.reduceToNat, Int.reduceAdd, Int.cast_ofNat_Int] <;> try rfl)
  simp only [go_sem, Nat.reduceAdd, Nat.reduceMul, Nat.reduceSub, Nat.reduceLT, Nat.reduceLeDiff, Nat.reduceEqDiff, reduceIte, reduceCtorEq, Int.reduceEq, Int.reduceLT, Int.reduceLE, Int.reduceBEq, Int.reduceToNat, Int.reduceAdd, Int.cast_ofNat_Int, q2, Bool.not_true, bq_t, (kM _).w.one, (kM _).e.one, (kM _).c.one, (kM _).g.one, (kM _).r.one, (kM _).t.one]
  refine call_by (c14 _ s a (kM _) e) ?_
  rintro _ h1 ⟨rfl, e2⟩
  rw [e2]
  clear e2 h1
  cases q3 : evOk s e
  · simp only [go_sem, Nat.reduceAdd, Nat.reduceMul, Nat.reduceSub, Nat.reduceLT, Nat.reduceLeDiff, Nat.reduceEqDiff, reduceIte, reduceCtorEq, Int.reduceEq, Int.reduceLT, Int.reduceLE, Int.reduceBEq, Int.reduceToNat, Int.reduceAdd, Int.cast_ofNat_Int, q3, Bool.not_false, bq_t]
    (first | refine endA_pure0 ?_ | refine endA_pure ?_ (by rfl)) <;> (simp only [go_sem, Nat.reduceAdd, Nat.reduceMul, Nat.reduceSub, Nat.reduceLT, Nat.reduceLeDiff, Nat.reduceEqDiff, reduceIte, reduceCtorEq, Int.reduceEq, Int.reduceLT, Int.reduceLE, Int.reduceBEq, Int.reduceToNat, Int.reduceAdd, Int.cast_ofNat_Int] <;> try rfl)
  cases q4 : e.kind == 7
  · have q4' : (e.kind != 7) = true := by simpa using q4
    simp only [go_sem, Nat.reduceAdd, Nat.reduceMul, Nat.reduceSub, Nat.reduceLT, Nat.reduceLeDiff, Nat.reduceEqDiff, reduceIte, reduceCtorEq, Int.reduceEq, Int.reduceLT, Int.reduceLE, Int.reduceBEq, Int.reduceToNat, Int.reduceAdd, Int.cast_ofNat_Int, q3, Bool.not_true, bq_t, q4']
    (first | refine endA_pure0 ?_ | refine endA_pure ?_ (by rfl)) <;> (simp only [go_sem, Nat.reduceAdd, Nat.reduceMul, Nat.reduceSub, Nat.reduceLT, Nat.reduceLeDiff, Nat.reduceEqDiff, reduceIte, reduceCtorEq, Int.reduceEq, Int.reduceLT, Int.reduceLE, Int.reduceBEq, Int.reduceToNat, Int.reduceAdd, Int.cast_ofNat_Int] <;> try rfl)
  have q4' : (e.kind != 7) = false := by simpa using q4
  simp only [go_sem, Nat.reduceAdd, Nat.reduceMul, Nat.reduceSub, Nat.reduceLT, Nat.reduceLeDiff, Nat.reduceEqDiff, reduceIte, reduceCtorEq, Int.reduceEq, Int.reduceLT, Int.reduceLE, Int.reduceBEq, Int.reduceToNat, Int.reduceAdd, Int.cast_ofNat_Int, q3, Bool.not_true, bq_t, q4', (kM _).w.one, (kM _).e.one, (kM _).c.one, (kM _).g.one, (kM _).r.one, (kM _).t.one]
  refine call_by (c15 _ s a (kM _) f x l e.worker wk (hx.app _) (by omega)) ?_
  rintro _ h1 ⟨rfl, e2⟩
  rw [e2]
  clear e2 h1
  obtain ⟨pv, hpv⟩ : ∃ pv, pv = perfP s l e.worker wk := ⟨_, rfl⟩
  rw [← hpv]
  have hr : ∀ M, rowsOf (h ++ M) x = some (l.map evC) := fun M => (hx.app M).rows
  simp only [go_sem, Nat.reduceAdd, Nat.reduceMul, Nat.reduceSub, Nat.reduceLT, Nat.reduceLeDiff, Nat.reduceEqDiff, reduceIte, reduceCtorEq, Int.reduceEq, Int.reduceLT, Int.reduceLE, Int.reduceBEq, Int.reduceToNat, Int.reduceAdd, Int.cast_ofNat_Int, (kM _).w.one, (kM _).e.one, (kM _).c.one, (kM _).g.one, (kM _).r.one, (kM _).t.one, hr]
  have hall : ((l.map evC).all fun r => r.length == 11 && r.all AV.one) = true := by
    rw [List.all_eq_true]
    intro r hr
    obtain ⟨y, _, rfl⟩ := List.mem_map.1 hr
    rfl
  have hc1 : l.length * 89 ≤ 140737488355328 := by omega
  have hc2 : (l.length + 1) * 89 ≤ 140737488355328 := by omega
  have hA : List.length (evC e) = 11 := rfl
  refine wp_draw rfl [.res, .res, .res, .res] 4 [(2, 0, []), (7, 0, []), (9, 0, []), (0, 0, []), (4, 0, []), (8, 0, []), (1, 0, []), (3, 0, [0, 4, 8]), (5, 1, []), (6, 0, [0, 8]), (10, 0, []), (11, 0, []), (12, 0, []), (13, 0, []), (14, 0, []), (15, 0, []), (16, 2, []), (17, 3, []), (18, 0, []), (19, 0, []), (20, 0, []), (21, 0, [])] rfl (by decide) (by decide) ?_
  simp only [go_sem, Nat.reduceAdd, Nat.reduceMul, Nat.reduceSub, Nat.reduceLT, Nat.reduceLeDiff, Nat.reduceEqDiff, reduceIte, reduceCtorEq, Int.reduceEq, Int.reduceLT, Int.reduceLE, Int.reduceBEq, Int.reduceToNat, Int.reduceAdd, Int.cast_ofNat_Int, (kM _).w.one, (kM _).e.one, (kM _).c.one, (kM _).g.one, (kM _).r.one, (kM _).t.one, hr, List.length_map, hall, hc1, hc2, hA]
  refine call_by (c15 _ s a (kM _) f (.tl (h.length + 4) 2) (l ++ [e]) e.worker wk (OwnS.rows (h0 := h) (ty := 35) (.inr ⟨_, _, by omega, rfl, by rw [List.map_append]; exact get_new rfl⟩)) (by rw [List.length_append]; simp; omega)) ?_
  rintro _ h1 ⟨rfl, e2⟩
  rw [e2]
  clear e2 h1
  have hk7 : e.kind = 7 := by simpa using q4
  obtain ⟨F1, F2, F3⟩ := perf_fault (l := l) (k := wk) q2 hk7 q3 (by omega)
  obtain ⟨pw, hpw⟩ : ∃ pw, pw = perfP s (l ++ [e]) e.worker wk := ⟨_, rfl⟩
  rw [← hpv, ← hpw] at F1 F2 F3
  rw [← hpw]
  cases q5 : pv.err == 0
  · have q5' : (pv.err != 0) = true := by simpa using q5
    simp only [go_sem, Nat.reduceAdd, Nat.reduceMul, Nat.reduceSub, Nat.reduceLT, Nat.reduceLeDiff, Nat.reduceEqDiff, reduceIte, reduceCtorEq, Int.reduceEq, Int.reduceLT, Int.reduceLE, Int.reduceBEq, Int.reduceToNat, Int.reduceAdd, Int.cast_ofNat_Int, (kM _).w.one, (kM _).e.one, (kM _).c.one, (kM _).g.one, (kM _).r.one, (kM _).t.one, q5', bq_t, F1, beq_self_eq_true]
    (first | refine endA_pure0 ?_ | refine endA_pure ?_ (by rfl)) <;> (simp only [go_sem, Nat.reduceAdd, Nat.reduceMul, Nat.reduceSub, Nat.reduceLT, Nat.reduceLeDiff, Nat.reduceEqDiff, reduceIte, reduceCtorEq, Int.reduceEq, Int.reduceLT, Int.reduceLE, Int.reduceBEq, Int.reduceToNat, Int.reduceAdd, Int.cast_ofNat_Int] <;> try rfl)
  have q5' : (pv.err != 0) = false := by simpa using q5
  cases q6 : pw.err == 0
  · have q6' : (pw.err != 0) = true := by simpa using q6
    simp only [go_sem, Nat.reduceAdd, Nat.reduceMul, Nat.reduceSub, Nat.reduceLT, Nat.reduceLeDiff, Nat.reduceEqDiff, reduceIte, reduceCtorEq, Int.reduceEq, Int.reduceLT, Int.reduceLE, Int.reduceBEq, Int.reduceToNat, Int.reduceAdd, Int.cast_ofNat_Int, (kM _).w.one, (kM _).e.one, (kM _).c.one, (kM _).g.one, (kM _).r.one, (kM _).t.one, q5', q6', bq_t, F1, beq_self_eq_true]
    (first | refine endA_pure0 ?_ | refine endA_pure ?_ (by rfl)) <;> (simp only [go_sem, Nat.reduceAdd, Nat.reduceMul, Nat.reduceSub, Nat.reduceLT, Nat.reduceLeDiff, Nat.reduceEqDiff, reduceIte, reduceCtorEq, Int.reduceEq, Int.reduceLT, Int.reduceLE, Int.reduceBEq, Int.reduceToNat, Int.reduceAdd, Int.cast_ofNat_Int] <;> try rfl)
  have q6' : (pw.err != 0) = false := by simpa using q6
  simp only [go_sem, Nat.reduceAdd, Nat.reduceMul, Nat.reduceSub, Nat.reduceLT, Nat.reduceLeDiff, Nat.reduceEqDiff, reduceIte, reduceCtorEq, Int.reduceEq, Int.reduceLT, Int.reduceLE, Int.reduceBEq, Int.reduceToNat, Int.reduceAdd, Int.cast_ofNat_Int, (kM _).w.one, (kM _).e.one, (kM _).c.one, (kM _).g.one, (kM _).r.one, (kM _).t.one, q5', q6', bq_t]
  refine call_by (c17 _ _) ?_
  rintro _ h1 ⟨rfl, e2⟩
  rw [e2]
  clear e2 h1
  cases q7 : weekI e.at_ == wk
  · have q7' : (weekI e.at_ != wk) = true := by simpa using q7
    have hpp := F2 (by simpa using q7)
    rw [hpp]
    simp only [go_sem, Nat.reduceAdd, Nat.reduceMul, Nat.reduceSub, Nat.reduceLT, Nat.reduceLeDiff, Nat.reduceEqDiff, reduceIte, reduceCtorEq, Int.reduceEq, Int.reduceLT, Int.reduceLE, Int.reduceBEq, Int.reduceToNat, Int.reduceAdd, Int.cast_ofNat_Int, (kM _).w.one, (kM _).e.one, (kM _).c.one, (kM _).g.one, (kM _).r.one, (kM _).t.one, q7', bq_t, beq_self_eq_true]
    (first | refine endA_pure0 ?_ | refine endA_pure ?_ (by rfl)) <;> (simp only [go_sem, Nat.reduceAdd, Nat.reduceMul, Nat.reduceSub, Nat.reduceLT, Nat.reduceLeDiff, Nat.reduceEqDiff, reduceIte, reduceCtorEq, Int.reduceEq, Int.reduceLT, Int.reduceLE, Int.reduceBEq, Int.reduceToNat, Int.reduceAdd, Int.cast_ofNat_Int] <;> try rfl)
  have q7' : (weekI e.at_ != wk) = false := by simpa using q7
  obtain ⟨F4, F5, F6⟩ := F3 (by simpa using q7) (by simpa using q5) (by simpa using q6)
  have hsf := setup_fault q2
  have hmk : make s.fault 1 = ((s.fault, 1), 0) := make_one (by omega)
  simp only [go_sem, Nat.reduceAdd, Nat.reduceMul, Nat.reduceSub, Nat.reduceLT, Nat.reduceLeDiff, Nat.reduceEqDiff, reduceIte, reduceCtorEq, Int.reduceEq, Int.reduceLT, Int.reduceLE, Int.reduceBEq, Int.reduceToNat, Int.reduceAdd, Int.cast_ofNat_Int, (kM _).w.one, (kM _).e.one, (kM _).c.one, (kM _).g.one, (kM _).r.one, (kM _).t.one, q7', bq_t]
  refine call_by (c18 s.fault 1 (by unfold Fit; omega) (by unfold Fit; omega) _) ?_
  rintro _ h1 ⟨rfl, e2⟩
  rw [e2, hmk]
  clear e2 h1
  simp only [go_sem, Nat.reduceAdd, Nat.reduceMul, Nat.reduceSub, Nat.reduceLT, Nat.reduceLeDiff, Nat.reduceEqDiff, reduceIte, reduceCtorEq, Int.reduceEq, Int.reduceLT, Int.reduceLE, Int.reduceBEq, Int.reduceToNat, Int.reduceAdd, Int.cast_ofNat_Int, (kM _).w.one, (kM _).e.one, (kM _).c.one, (kM _).g.one, (kM _).r.one, (kM _).t.one]
  have hlv := perf_lo (w := e.worker) (k := wk) (l := l) q2 (by omega) (by rw [← hpv]; simpa using q5)
  have hlw := perf_lo (w := e.worker) (k := wk) (l := l ++ [e]) q2 (by rw [List.length_append]; simp; omega) (by rw [← hpw]; simpa using q6)
  rw [← hpv] at hlv
  rw [← hpw] at hlw
  refine call_by (c19 pv.earned (s.fault, 1) (lo_fit hlv.1) ⟨by unfold Fit; simp only; omega, by unfold Fit; simp⟩ _) ?_
  rintro _ h1 ⟨rfl, e2⟩
  rw [e2]
  clear e2 h1
  obtain ⟨xv, hxv⟩ : ∃ xv, xv = subR pv.earned (s.fault, 1) := ⟨_, rfl⟩
  rw [← hxv] at F4
  rw [show twoR subV pv.earned (s.fault, 1) = xv from hxv.symm]
  have hge : decide (pw.earned.1 ≥ 0) = true := by simpa using F6
  have hxs : pw.earned = (0, 1) → xv.2 = 0 → decide (xv.1.1 ≤ 0) = true := fun hb hx2 => by
    rcases F4 with ⟨_, h1 | h1⟩ | ⟨_, h1⟩
    · exact absurd hx2 h1
    · simpa using h1
    · rw [hb] at h1; rw [← h1]; rfl
  by_cases hb : pw.earned = (0, 1)
  · have hbb : (pw.earned.fst == 0 && pw.earned.snd == 1) = true := by rw [hb]; rfl
    cases q8 : xv.2 == 0
    · have q8' : (xv.2 != 0) = true := by simpa using q8
      simp only [go_sem, Nat.reduceAdd, Nat.reduceMul, Nat.reduceSub, Nat.reduceLT, Nat.reduceLeDiff, Nat.reduceEqDiff, reduceIte, reduceCtorEq, Int.reduceEq, Int.reduceLT, Int.reduceLE, Int.reduceBEq, Int.reduceToNat, Int.reduceAdd, Int.cast_ofNat_Int, (kM _).w.one, (kM _).e.one, (kM _).c.one, (kM _).g.one, (kM _).r.one, (kM _).t.one, bq_t, hbb, q8, q8', F1, beq_self_eq_true]
      refine call_by (c20 pv.perf pw.perf (lo_fit hlv.2) (lo_fit hlw.2) _) ?_
      rintro _ h1 ⟨rfl, e2⟩
      rw [e2, F5]
      clear e2 h1
      simp only [go_sem, Nat.reduceAdd, Nat.reduceMul, Nat.reduceSub, Nat.reduceLT, Nat.reduceLeDiff, Nat.reduceEqDiff, reduceIte, reduceCtorEq, Int.reduceEq, Int.reduceLT, Int.reduceLE, Int.reduceBEq, Int.reduceToNat, Int.reduceAdd, Int.cast_ofNat_Int, (kM _).w.one, (kM _).e.one, (kM _).c.one, (kM _).g.one, (kM _).r.one, (kM _).t.one, bq_t, hge, Bool.not_false, beq_self_eq_true]
      (first | refine endA_pure0 ?_ | refine endA_pure ?_ (by rfl)) <;> (simp only [go_sem, Nat.reduceAdd, Nat.reduceMul, Nat.reduceSub, Nat.reduceLT, Nat.reduceLeDiff, Nat.reduceEqDiff, reduceIte, reduceCtorEq, Int.reduceEq, Int.reduceLT, Int.reduceLE, Int.reduceBEq, Int.reduceToNat, Int.reduceAdd, Int.cast_ofNat_Int] <;> try rfl)
    · have q8' : (xv.2 != 0) = false := by simpa using q8
      have hx3 := hxs hb (by simpa using q8)
      simp only [go_sem, Nat.reduceAdd, Nat.reduceMul, Nat.reduceSub, Nat.reduceLT, Nat.reduceLeDiff, Nat.reduceEqDiff, reduceIte, reduceCtorEq, Int.reduceEq, Int.reduceLT, Int.reduceLE, Int.reduceBEq, Int.reduceToNat, Int.reduceAdd, Int.cast_ofNat_Int, (kM _).w.one, (kM _).e.one, (kM _).c.one, (kM _).g.one, (kM _).r.one, (kM _).t.one, bq_t, hbb, q8, q8', hx3, F1, beq_self_eq_true]
      refine call_by (c20 pv.perf pw.perf (lo_fit hlv.2) (lo_fit hlw.2) _) ?_
      rintro _ h1 ⟨rfl, e2⟩
      rw [e2, F5]
      clear e2 h1
      simp only [go_sem, Nat.reduceAdd, Nat.reduceMul, Nat.reduceSub, Nat.reduceLT, Nat.reduceLeDiff, Nat.reduceEqDiff, reduceIte, reduceCtorEq, Int.reduceEq, Int.reduceLT, Int.reduceLE, Int.reduceBEq, Int.reduceToNat, Int.reduceAdd, Int.cast_ofNat_Int, (kM _).w.one, (kM _).e.one, (kM _).c.one, (kM _).g.one, (kM _).r.one, (kM _).t.one, bq_t, hge, Bool.not_false, beq_self_eq_true]
      (first | refine endA_pure0 ?_ | refine endA_pure ?_ (by rfl)) <;> (simp only [go_sem, Nat.reduceAdd, Nat.reduceMul, Nat.reduceSub, Nat.reduceLT, Nat.reduceLeDiff, Nat.reduceEqDiff, reduceIte, reduceCtorEq, Int.reduceEq, Int.reduceLT, Int.reduceLE, Int.reduceBEq, Int.reduceToNat, Int.reduceAdd, Int.cast_ofNat_Int] <;> try rfl)
  · have hbb : (pw.earned.fst == 0 && pw.earned.snd == 1) = false := by
      rw [Bool.eq_false_iff]
      intro h
      simp only [Bool.and_eq_true, beq_iff_eq] at h
      exact hb (Prod.ext h.1 h.2)
    obtain ⟨q8, hbx⟩ : xv.2 = 0 ∧ pw.earned = xv.1 := by
      rcases F4 with ⟨h1, _⟩ | h1
      · exact absurd h1 hb
      · exact h1
    have q8a : (xv.2 == 0) = true := by simpa using q8
    have hb1 : (pw.earned.fst == xv.1.1) = true := by rw [hbx]; simp
    have hb2 : (pw.earned.snd == xv.1.2) = true := by rw [hbx]; simp
    simp only [go_sem, Nat.reduceAdd, Nat.reduceMul, Nat.reduceSub, Nat.reduceLT, Nat.reduceLeDiff, Nat.reduceEqDiff, reduceIte, reduceCtorEq, Int.reduceEq, Int.reduceLT, Int.reduceLE, Int.reduceBEq, Int.reduceToNat, Int.reduceAdd, Int.cast_ofNat_Int, (kM _).w.one, (kM _).e.one, (kM _).c.one, (kM _).g.one, (kM _).r.one, (kM _).t.one, bq_t, hbb, q8a, hb1, hb2, F1, beq_self_eq_true]
    refine call_by (c20 pv.perf pw.perf (lo_fit hlv.2) (lo_fit hlw.2) _) ?_
    rintro _ h1 ⟨rfl, e2⟩
    rw [e2, F5]
    clear e2 h1
    simp only [go_sem, Nat.reduceAdd, Nat.reduceMul, Nat.reduceSub, Nat.reduceLT, Nat.reduceLeDiff, Nat.reduceEqDiff, reduceIte, reduceCtorEq, Int.reduceEq, Int.reduceLT, Int.reduceLE, Int.reduceBEq, Int.reduceToNat, Int.reduceAdd, Int.cast_ofNat_Int, (kM _).w.one, (kM _).e.one, (kM _).c.one, (kM _).g.one, (kM _).r.one, (kM _).t.one, bq_t, hge, Bool.not_false, beq_self_eq_true]
    (first | refine endA_pure0 ?_ | refine endA_pure ?_ (by rfl)) <;> (simp only [go_sem, Nat.reduceAdd, Nat.reduceMul, Nat.reduceSub, Nat.reduceLT, Nat.reduceLeDiff, Nat.reduceEqDiff, reduceIte, reduceCtorEq, Int.reduceEq, Int.reduceLT, Int.reduceLE, Int.reduceBEq, Int.reduceToNat, Int.reduceAdd, Int.cast_ofNat_Int] <;> try rfl)
end Go.Proofs.Ytpdghiplnlhnfaa.Ax

namespace Go.Proofs.Ytpdghiplnlhnfaa.perfFaults
set_option linter.unusedSimpArgs false
set_option linter.unusedVariables false
open Go.ChangeShapes Go.WideShapes Go.ChangeAt Go.RowKit
open Go.ChangeMaps (open_string shut_string)
set_option linter.unusedVariables false

theorem own : ownKnob Try.prog.godebug = none := by kernel_rfl
theorem laidOut : laidOutB Try.prog = true := by kernel_rfl

/-- A slice of integers that came in. -/
def IsRow (k : IntKind) (w : World) (a : Option Addr) (len cap : Nat) (zs : List Int) : Prop :=
  (a = none ∧ len = 0 ∧ cap = 0 ∧ zs = []) ∨
  ∃ x, a = some x ∧ len ≤ cap ∧ cap ≤ maxLen ∧ zs.length = cap ∧ (∀ i, i < zs.length → w.cell? (x.add i) = some (.int k (zs.getD i 0))) ∧ ∀ n ∈ zs, (Lit.int k n).wf = true

/-! ### The walk. -/
theorem walk (x0 : Value) (x1 : Value) (x2 : Value) (a3 : Int) (w : World) (w0 : Ax.InSet w x0) (w1 : Ax.InEvs w x1) (w2 : Ax.InEv x2) (w3 : (Lit.int .i64 a3).wf = true) :
    Calls Try.prog 4 #[x0, x1, x2, .int .i64 a3] w fun e w' => e = .returned (.bool true) ∧ Below w.heap.size w w' := by
  obtain ⟨s, a, ha, ks, fs⟩ := w0
  obtain ⟨x, l, hx, sl⟩ := w1
  obtain ⟨e, rfl⟩ := w2
  exact Ax.run_law (Ax.c4 [] s a ks fs x l sl e a3) ⟨_, _, rfl, ha, _, _, rfl, hx, _, _, rfl, Ax.InEv.ar, _, _, rfl, rfl, rfl⟩

/-! ### The row's step. -/
set_option maxRecDepth 100000 in
theorem lifted (os : Os) (started : os.Started) (H : Type) (enc : TypeId × Value → H) :
    ReturnsInHanded {} Try.checked os 4 .any (Rows.perfFaultsSpec.pre6 enc Try.prog Try.f4 Rows.perfFaultsRow.domain false) (Rows.perfFaultsSpec.post enc Try.prog Try.f4 false true false false) := by
  refine returnsInHanded_of_change (C := Try.checked) own started (by kernel_rfl) Try.func4
    (ChangeSpec.witness6 (enc := enc) (C := Try.checked) false ⟨#[], #[.agg #[.int .i64 0, .slice none 0 0, .int .i64 0, .int .i64 0, .slice none 0 0, .slice none 0 0, .slice none 0 0, .int .i64 0, .int .i64 0, .int .i64 0, .int .i64 0, .int .i64 0, .int .i64 0, .int .i64 0, .int .i64 0, .int .i64 0, .int .i64 0, .int .i64 0, .slice none 0 0, .int .i64 0, .int .i64 0, .int .i64 0, .slice none 0 0], .slice none 0 0, .agg #[.int .i64 0, .int .i64 0, .int .i64 0, .int .i64 0, .int .i64 0, .int .i64 0, .int .i64 0, .int .i64 0, .int .i64 0, .int .i64 0, .int .i64 0], .int .i64 0], []⟩ 8 (by kernel_rfl) (by kernel_rfl) (by kernel_rfl) (by kernel_rfl)) ?_
  intro W base args ds gs before hval0 hW hcnd _
  have hval : ∀ (j : Nat) t v, Try.f4.params[j]? = some t → args[j]? = some v → Value.okWide Try.prog W .any base t v := hval0
  have hW' := hW
  obtain ⟨p, q, hA0, hV, rfl, hfz, hnd⟩ := hW
  have hA : DataW.TrodAll enc Try.prog W 0 (fun _ => true) true Try.f4.params.toList args.toList ds p := hA0
  rw [Try.params4] at hA hval
  obtain ⟨v0, vs0, d0, ds0, p0, q0, hargs, rfl, rfl, h0, r0⟩ := trodAll_cons hA
  obtain ⟨v1, vs1, d1, ds1, p1, q1, rfl, rfl, rfl, h1, r1⟩ := trodAll_cons r0
  obtain ⟨v2, vs2, d2, ds2, p2, q2, rfl, rfl, rfl, h2, r2⟩ := trodAll_cons r1
  obtain ⟨v3, vs3, d3, ds3, p3, q3, rfl, rfl, rfl, h3, r3⟩ := trodAll_cons r2
  obtain ⟨rfl, rfl, rfl⟩ := trodAll_nil r3
  obtain rfl : args = #[v0, v1, v2, v3] := by cases args; simp_all
  obtain ⟨rfl, rfl⟩ := trodVars_none hV
  have k0 := h0
  have lt0 : ∀ x ∈ p0, x.block < W.heap.size := by obtain ⟨m, hm⟩ := k0; exact DataW.trod_lt m _ _ _ hm
  have w0 := Ax.setup_in (hval 0 30 v0 rfl rfl) h0
  have k1 := h1
  have lt1 : ∀ x ∈ p1, x.block < W.heap.size := by obtain ⟨m, hm⟩ := k1; exact DataW.trod_lt m _ _ _ hm
  obtain ⟨sa1, sl1, sc1, rfl⟩ := okWide_slice Try.underlying31 (hval 1 31 v1 rfl rfl)
  have w1 := (by obtain ⟨fuel, hf⟩ := h1; exact Ax.evs_in (v := .slice sa1 sl1 sc1) (by simpa [Value.cells] using hf) : Ax.InEvs W (.slice sa1 sl1 sc1))
  have k2 := h2
  have lt2 : ∀ x ∈ p2, x.block < W.heap.size := by obtain ⟨m, hm⟩ := k2; exact DataW.trod_lt m _ _ _ hm
  have w2 := Ax.ev_in (hval 2 35 v2 rfl rfl) h2
  obtain ⟨a3, rfl, rfl, rfl, w3⟩ := open_int Try.underlying3 (hval 3 3 v3 rfl rfl) h3
  clear hA0 hval0
  refine (walk v0 (.slice sa1 sl1 sc1) v2 a3 W w0 w1 w2 w3).mono fun e W' ⟨he, bel⟩ => ?_
  subst he
  exact ⟨_, rfl, _, _, _, [], _, [], hW', trodAll_mk1 (shut_bool Try.underlying4 _), (trodAll_cons_mk (Below.trod laidOut (by kernel_rfl) (of_decide_eq_true (by kernel_rfl)) k0 bel lt0) (trodAll_cons_mk (Below.trod laidOut (by kernel_rfl) (of_decide_eq_true (by kernel_rfl)) k1 bel lt1) (trodAll_cons_mk (Below.trod laidOut (by kernel_rfl) (of_decide_eq_true (by kernel_rfl)) k2 bel lt2) (trodAll_cons_mk (shut_int Try.underlying3 w3) trodAll_mk0)))), rfl, bel.frame _, fun h => by cases h⟩

theorem over : Rows.perfFaultsRow.holds Try.pinned (OpenSpec.ofChange Rows.perfFaultsSpec) :=
  OpenClaim.holds_of_wide 4 Try.f4 rfl rfl rfl rfl rfl rfl rfl ⟨rfl, rfl, rfl, rfl, rfl⟩ rfl rfl rfl rfl rfl (by kernel_rfl) Try.func4 (by kernel_rfl)
    (of_decide_eq_true (by kernel_rfl)) (by unfold Func.isWrapper; first | (rw [if_pos (by decide +kernel)]; kernel_rfl) | (rw [if_neg (by decide +kernel)]; exact ⟨rfl, rfl⟩))
    (fun os started H enc _ => lifted os started H enc)

/-- The statement. -/
theorem proved : Rows.PerfFaultsSaid := over
#print axioms proved
end Go.Proofs.Ytpdghiplnlhnfaa.perfFaults
