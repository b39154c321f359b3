/-
  StreamFlags: whatever the input, the call returns true and leaves its arguments as they were. No condition.
-/
import Derived.Test.YtpdghiplnlhnfaaMZ
import Derived.Test.YtpdghiplnlhnfaaRows
import Derived.WalkKit
import Derived.ProofKit
import Derived.OpenShut
import Derived.ShutString
import Derived.ChangeOld
import Derived.Below
import Derived.Deep.Matrix
namespace Go.Proofs.Ytpdghiplnlhnfaa.Ax
set_option linter.unusedSimpArgs false
set_option linter.unusedVariables false
open Go Go.Proofs
set_option maxRecDepth 100000
set_option linter.unusedSimpArgs false
set_option linter.unusedVariables false
def kindE (s : Setup) (w : Int) (k : Int) (e : Ev) : Bool := e.worker == w && e.kind == k && evOk s e
theorem kindE_sel {s : Setup} {w k : Int} {e : Ev} (hk : k ≠ 7) : kindE s w k e = (selP s w e && e.kind == k) := by
  unfold kindE selP
  by_cases h : e.kind = k
  · have h7 : (e.kind != 7) = true := by rw [h]; simpa using hk
    have h8 : (e.kind == k) = true := by simpa using h
    rw [h7, h8]
    cases e.worker == w <;> cases evOk s e <;> rfl
  · have h8 : (e.kind == k) = false := by simpa using h
    rw [h8]
    cases e.worker == w <;> cases evOk s e <;> cases e.kind != 7 <;> rfl
theorem countP_snoc {α : Type} (p : α → Bool) (l : List α) (n : Nat) (hn : n < l.length) : (l.take (n + 1)).countP p = (l.take n).countP p + if p l[n] then 1 else 0 := by
  rw [← List.take_append_getElem hn, List.countP_append, List.countP_singleton]
/-- One event of each number. -/
theorem count_one {p : Ev → Bool} {e : Ev} : ∀ {l : List Ev}, (l.map (·.id)).Nodup → e ∈ l → l.countP (fun x => x.id == e.id && p x) = if p e then 1 else 0
  | [], _, h => by cases h
  | y :: l, hn, h => by
    simp only [List.map_cons, List.nodup_cons] at hn
    rw [List.countP_cons]
    rcases List.mem_cons.1 h with rfl | h
    · have h0 : l.countP (fun x => x.id == e.id && p x) = 0 := by
        rw [List.countP_eq_zero]
        intro x hx
        have : x.id ≠ e.id := fun q => hn.1 (q ▸ List.mem_map_of_mem hx)
        simp [this]
      rw [h0]
      simp
    · have : y.id ≠ e.id := fun q => hn.1 (q ▸ List.mem_map_of_mem h)
      rw [count_one hn.2 h]
      simp [this]
theorem ev_same : ∀ {l : List Ev} {a b : Ev}, (l.map (·.id)).Nodup → a ∈ l → b ∈ l → a.id = b.id → a = b
  | [], _, _, _, h, _, _ => by cases h
  | y :: l, a, b, hn, ha, hb, hq => by
    simp only [List.map_cons, List.nodup_cons] at hn
    rcases List.mem_cons.1 ha with h1 | h1 <;> rcases List.mem_cons.1 hb with h2 | h2
    · rw [h1, h2]
    · exact absurd (by rw [← h1, hq]; exact List.mem_map_of_mem h2) hn.1
    · exact absurd (by rw [← h2, ← hq]; exact List.mem_map_of_mem h1) hn.1
    · exact ev_same hn.2 h1 h2 hq
set_option maxHeartbeats 8000000 in
theorem c9 (h : List Ob) (s : Setup) (a : SA) (k : SIn h s a) (f0 : SFit0 s) (x : AV) (l : List Ev) (hx : SlOf h x 11 (l.map evC)) (w : Int) :
    ACalls Try.prog 9 [setupV s a, x, i64 w] h fun r h' => r = bl true ∧ h' = h := by
  refine acalls_wp Try.f9 [.tmp 6] 196 rfl rfl rfl rfl rfl rfl (by decide) (⟨_, _, ⟨rfl, rfl⟩, .refl⟩) fun B => ?_
  simp only [go_sem, Nat.reduceAdd, Nat.reduceMul, Nat.reduceSub, Nat.reduceLT, Nat.reduceLeDiff, Nat.reduceEqDiff, reduceIte, reduceCtorEq, Int.reduceEq, Int.reduceLT, Int.reduceLE, Int.reduceBEq, Int.reduceToNat, Int.reduceAdd, Int.cast_ofNat_Int, k.w.one, k.e.one, k.c.one, k.g.one, k.r.one, k.t.one]
  refine call_by (c28 _) ?_
  rintro _ h1 ⟨rfl, rfl⟩
  have k1 := k.app [.box 30 (setupC s a)]
  simp only [go_sem, Nat.reduceAdd, Nat.reduceMul, Nat.reduceSub, Nat.reduceLT, Nat.reduceLeDiff, Nat.reduceEqDiff, reduceIte, reduceCtorEq, Int.reduceEq, Int.reduceLT, Int.reduceLE, Int.reduceBEq, Int.reduceToNat, Int.reduceAdd, Int.cast_ofNat_Int, k1.w.one, k1.e.one, k1.c.one, k1.g.one, k1.r.one, k1.t.one]
  refine call_by (c29 _ s a k1 x l (hx.app _)) ?_
  rintro _ h1 ⟨rfl, rfl⟩
  simp only [go_sem, Nat.reduceAdd, Nat.reduceMul, Nat.reduceSub, Nat.reduceLT, Nat.reduceLeDiff, Nat.reduceEqDiff, reduceIte, reduceCtorEq, Int.reduceEq, Int.reduceLT, Int.reduceLE, Int.reduceBEq, Int.reduceToNat, Int.reduceAdd, Int.cast_ofNat_Int]
  cases q1 : fewL 100 s l
  · simp only [go_sem, Nat.reduceAdd, Nat.reduceMul, Nat.reduceSub, Nat.reduceLT, Nat.reduceLeDiff, Nat.reduceEqDiff, reduceIte, reduceCtorEq, Int.reduceEq, Int.reduceLT, Int.reduceLE, Int.reduceBEq, Int.reduceToNat, Int.reduceAdd, Int.cast_ofNat_Int, q1, bq_t, Bool.not_false]
    (first | refine endA_pure0 ?_ | refine endA_pure ?_ (by rfl)) <;> (simp only [go_sem, Nat.reduceAdd, Nat.reduceMul, Nat.reduceSub, Nat.reduceLT, Nat.reduceLeDiff, Nat.reduceEqDiff, reduceIte, reduceCtorEq, Int.reduceEq, Int.reduceLT, Int.reduceLE, Int.reduceBEq, Int.reduceToNat, Int.reduceAdd, Int.cast_ofNat_Int] <;> try rfl)
  simp only [fewL, Bool.and_eq_true, decide_eq_true_eq] at q1
  obtain ⟨e1, hl⟩ := q1
  have q1 : fewL 100 s l = true := by simp [fewL, e1, hl]
  have f := f0.few e1
  simp only [go_sem, Nat.reduceAdd, Nat.reduceMul, Nat.reduceSub, Nat.reduceLT, Nat.reduceLeDiff, Nat.reduceEqDiff, reduceIte, reduceCtorEq, Int.reduceEq, Int.reduceLT, Int.reduceLE, Int.reduceBEq, Int.reduceToNat, Int.reduceAdd, Int.cast_ofNat_Int, q1, bq_t, Bool.not_true, k1.w.one, k1.e.one, k1.c.one, k1.g.one, k1.r.one, k1.t.one]
  refine call_by (c16 _ s a k1 f) ?_
  rintro _ h1 ⟨rfl, rfl⟩
  simp only [go_sem, Nat.reduceAdd, Nat.reduceMul, Nat.reduceSub, Nat.reduceLT, Nat.reduceLeDiff, Nat.reduceEqDiff, reduceIte, reduceCtorEq, Int.reduceEq, Int.reduceLT, Int.reduceLE, Int.reduceBEq, Int.reduceToNat, Int.reduceAdd, Int.cast_ofNat_Int]
  cases q2 : setupOk s
  · simp only [go_sem, Nat.reduceAdd, Nat.reduceMul, Nat.reduceSub, Nat.reduceLT, Nat.reduceLeDiff, Nat.reduceEqDiff, reduceIte, reduceCtorEq, Int.reduceEq, Int.reduceLT, Int.reduceLE, Int.reduceBEq, Int.reduceToNat, Int.reduceAdd, Int.cast_ofNat_Int, q2, bq_t, Bool.not_false]
    (first | refine endA_pure0 ?_ | refine endA_pure ?_ (by rfl)) <;> (simp only [go_sem, Nat.reduceAdd, Nat.reduceMul, Nat.reduceSub, Nat.reduceLT, Nat.reduceLeDiff, Nat.reduceEqDiff, reduceIte, reduceCtorEq, Int.reduceEq, Int.reduceLT, Int.reduceLE, Int.reduceBEq, Int.reduceToNat, Int.reduceAdd, Int.cast_ofNat_Int] <;> try rfl)
  · simp only [go_sem, Nat.reduceAdd, Nat.reduceMul, Nat.reduceSub, Nat.reduceLT, Nat.reduceLeDiff, Nat.reduceEqDiff, reduceIte, reduceCtorEq, Int.reduceEq, Int.reduceLT, Int.reduceLE, Int.reduceBEq, Int.reduceToNat, Int.reduceAdd, Int.cast_ofNat_Int, q2, bq_t, Bool.not_true, k1.w.one, k1.e.one, k1.c.one, k1.g.one, k1.r.one, k1.t.one]
    obtain ⟨h0, hh0⟩ : ∃ h0, h0 = h ++ [Ob.box 30 (setupC s a)] := ⟨_, rfl⟩
    have h30 : h0[h.length]? = some (.box 30 (setupC s a)) := by rw [hh0]; exact get_new0 rfl
    have hx0 : SlOf h0 x 11 (l.map evC) := by rw [hh0]; exact hx.app _
    rw [← hh0] at k1 ⊢
    refine wp_loop_a (by decide) (fun m T h' => h' = h0 ∧ ∃ n : Nat, n ≤ l.length ∧ ((l.take n).map (·.id)).Nodup ∧ T 1 = x ∧ T 2 = i64 w ∧ T 3 = .ptr h.length 0 ∧ T 7 = bl true ∧ T 8 = i64 ((l.take n).countP (kindE s w 1) : Nat) ∧ T 9 = i64 ((l.take n).countP (kindE s w 2) : Nat) ∧ T 10 = i64 n ∧ m = l.length - n) l.length
      ⟨rfl, 0, by omega, .nil, by simp only [go_sem, Nat.reduceAdd, Nat.reduceMul, Nat.reduceSub, Nat.reduceLT, Nat.reduceLeDiff, Nat.reduceEqDiff, reduceIte, reduceCtorEq, Int.reduceEq, Int.reduceLT, Int.reduceLE, Int.reduceBEq, Int.reduceToNat, Int.reduceAdd, Int.cast_ofNat_Int], by simp only [go_sem, Nat.reduceAdd, Nat.reduceMul, Nat.reduceSub, Nat.reduceLT, Nat.reduceLeDiff, Nat.reduceEqDiff, reduceIte, reduceCtorEq, Int.reduceEq, Int.reduceLT, Int.reduceLE, Int.reduceBEq, Int.reduceToNat, Int.reduceAdd, Int.cast_ofNat_Int], by simp only [go_sem, Nat.reduceAdd, Nat.reduceMul, Nat.reduceSub, Nat.reduceLT, Nat.reduceLeDiff, Nat.reduceEqDiff, reduceIte, reduceCtorEq, Int.reduceEq, Int.reduceLT, Int.reduceLE, Int.reduceBEq, Int.reduceToNat, Int.reduceAdd, Int.cast_ofNat_Int], by simp only [go_sem, Nat.reduceAdd, Nat.reduceMul, Nat.reduceSub, Nat.reduceLT, Nat.reduceLeDiff, Nat.reduceEqDiff, reduceIte, reduceCtorEq, Int.reduceEq, Int.reduceLT, Int.reduceLE, Int.reduceBEq, Int.reduceToNat, Int.reduceAdd, Int.cast_ofNat_Int], by (simp only [go_sem, Nat.reduceAdd, Nat.reduceMul, Nat.reduceSub, Nat.reduceLT, Nat.reduceLeDiff, Nat.reduceEqDiff, reduceIte, reduceCtorEq, Int.reduceEq, Int.reduceLT, Int.reduceLE, Int.reduceBEq, Int.reduceToNat, Int.reduceAdd, Int.cast_ofNat_Int] <;> rfl), by (simp only [go_sem, Nat.reduceAdd, Nat.reduceMul, Nat.reduceSub, Nat.reduceLT, Nat.reduceLeDiff, Nat.reduceEqDiff, reduceIte, reduceCtorEq, Int.reduceEq, Int.reduceLT, Int.reduceLE, Int.reduceBEq, Int.reduceToNat, Int.reduceAdd, Int.cast_ofNat_Int] <;> rfl), by (simp only [go_sem, Nat.reduceAdd, Nat.reduceMul, Nat.reduceSub, Nat.reduceLT, Nat.reduceLeDiff, Nat.reduceEqDiff, reduceIte, reduceCtorEq, Int.reduceEq, Int.reduceLT, Int.reduceLE, Int.reduceBEq, Int.reduceToNat, Int.reduceAdd, Int.cast_ofNat_Int] <;> rfl), rfl⟩ ?_
    rintro m T h' ⟨rfl, n, hn, hnd, t1, t2, t3, t7, t8, t9, t10, rfl⟩
    simp only [go_sem, Nat.reduceAdd, Nat.reduceMul, Nat.reduceSub, Nat.reduceLT, Nat.reduceLeDiff, Nat.reduceEqDiff, reduceIte, reduceCtorEq, Int.reduceEq, Int.reduceLT, Int.reduceLE, Int.reduceBEq, Int.reduceToNat, Int.reduceAdd, Int.cast_ofNat_Int, t1, t10, hx0.rows, List.length_map]
    refine ways (fun e => ?_) (fun e => ?_)
    · have hlt := dlt e
      have hee := hx0.at (i := n) (by simpa using hlt)
      have hrow : (l.map evC)[n]? = some (evC l[n]) := row_get (List.getElem?_eq_getElem hlt)
      have hkl : (n : Int) < l.length := by omega
      have hndN : (l.take (n + 1)).map (·.id) = (l.take n).map (·.id) ++ [(l[n]).id] := by
        rw [← List.take_append_getElem hlt, List.map_append]; rfl
      have hc1 := countP_snoc (kindE s w 1) l n hlt
      have hc2 := countP_snoc (kindE s w 2) l n hlt
      have hb1 := List.countP_le_length (p := kindE s w 1) (l := l.take n)
      have hb2 := List.countP_le_length (p := kindE s w 2) (l := l.take n)
      rw [List.length_take] at hb1 hb2
      obtain ⟨y, hy⟩ : ∃ y, y = l[n] := ⟨_, rfl⟩
      rw [← hy] at hrow hndN hc1 hc2
      obtain ⟨n1, hn1⟩ : ∃ n1, n1 = (l.take n).countP (kindE s w 1) := ⟨_, rfl⟩
      obtain ⟨n2, hn2⟩ : ∃ n2, n2 = (l.take n).countP (kindE s w 2) := ⟨_, rfl⟩
      rw [← hn1] at t8 hc1 hb1
      rw [← hn2] at t9 hc2 hb2
      have hA : List.length (evC y) = 11 := rfl
      simp only [go_sem, Nat.reduceAdd, Nat.reduceMul, Nat.reduceSub, Nat.reduceLT, Nat.reduceLeDiff, Nat.reduceEqDiff, reduceIte, reduceCtorEq, Int.reduceEq, Int.reduceLT, Int.reduceLE, Int.reduceBEq, Int.reduceToNat, Int.reduceAdd, Int.cast_ofNat_Int]
      refine wp_loop_a (by decide) (fun m T h3 => h3 = h' ∧ ∃ j : Nat, j ≤ n ∧ y.id ∉ (l.take j).map (·.id) ∧ T 1 = x ∧ T 2 = i64 w ∧ T 3 = .ptr h.length 0 ∧ T 7 = bl true ∧ T 8 = i64 n1 ∧ T 9 = i64 n2 ∧ T 10 = i64 n ∧ T 11 = i64 j ∧ m = n - j) n
        ⟨rfl, 0, by omega, by simp, by simp only [go_sem, Nat.reduceAdd, Nat.reduceMul, Nat.reduceSub, Nat.reduceLT, Nat.reduceLeDiff, Nat.reduceEqDiff, reduceIte, reduceCtorEq, Int.reduceEq, Int.reduceLT, Int.reduceLE, Int.reduceBEq, Int.reduceToNat, Int.reduceAdd, Int.cast_ofNat_Int, t1], by simp only [go_sem, Nat.reduceAdd, Nat.reduceMul, Nat.reduceSub, Nat.reduceLT, Nat.reduceLeDiff, Nat.reduceEqDiff, reduceIte, reduceCtorEq, Int.reduceEq, Int.reduceLT, Int.reduceLE, Int.reduceBEq, Int.reduceToNat, Int.reduceAdd, Int.cast_ofNat_Int, t2], by simp only [go_sem, Nat.reduceAdd, Nat.reduceMul, Nat.reduceSub, Nat.reduceLT, Nat.reduceLeDiff, Nat.reduceEqDiff, reduceIte, reduceCtorEq, Int.reduceEq, Int.reduceLT, Int.reduceLE, Int.reduceBEq, Int.reduceToNat, Int.reduceAdd, Int.cast_ofNat_Int, t3], by simp only [go_sem, Nat.reduceAdd, Nat.reduceMul, Nat.reduceSub, Nat.reduceLT, Nat.reduceLeDiff, Nat.reduceEqDiff, reduceIte, reduceCtorEq, Int.reduceEq, Int.reduceLT, Int.reduceLE, Int.reduceBEq, Int.reduceToNat, Int.reduceAdd, Int.cast_ofNat_Int, t7], by simp only [go_sem, Nat.reduceAdd, Nat.reduceMul, Nat.reduceSub, Nat.reduceLT, Nat.reduceLeDiff, Nat.reduceEqDiff, reduceIte, reduceCtorEq, Int.reduceEq, Int.reduceLT, Int.reduceLE, Int.reduceBEq, Int.reduceToNat, Int.reduceAdd, Int.cast_ofNat_Int, t8], by simp only [go_sem, Nat.reduceAdd, Nat.reduceMul, Nat.reduceSub, Nat.reduceLT, Nat.reduceLeDiff, Nat.reduceEqDiff, reduceIte, reduceCtorEq, Int.reduceEq, Int.reduceLT, Int.reduceLE, Int.reduceBEq, Int.reduceToNat, Int.reduceAdd, Int.cast_ofNat_Int, t9], by simp only [go_sem, Nat.reduceAdd, Nat.reduceMul, Nat.reduceSub, Nat.reduceLT, Nat.reduceLeDiff, Nat.reduceEqDiff, reduceIte, reduceCtorEq, Int.reduceEq, Int.reduceLT, Int.reduceLE, Int.reduceBEq, Int.reduceToNat, Int.reduceAdd, Int.cast_ofNat_Int, t10], by (simp only [go_sem, Nat.reduceAdd, Nat.reduceMul, Nat.reduceSub, Nat.reduceLT, Nat.reduceLeDiff, Nat.reduceEqDiff, reduceIte, reduceCtorEq, Int.reduceEq, Int.reduceLT, Int.reduceLE, Int.reduceBEq, Int.reduceToNat, Int.reduceAdd, Int.cast_ofNat_Int] <;> rfl), rfl⟩ ?_
      clear t1 t2 t3 t7 t8 t9 t10
      rintro m T h3 ⟨rfl, j, hj, hin, t1, t2, t3, t7, t8, t9, t10, t11, rfl⟩
      simp only [go_sem, Nat.reduceAdd, Nat.reduceMul, Nat.reduceSub, Nat.reduceLT, Nat.reduceLeDiff, Nat.reduceEqDiff, reduceIte, reduceCtorEq, Int.reduceEq, Int.reduceLT, Int.reduceLE, Int.reduceBEq, Int.reduceToNat, Int.reduceAdd, Int.cast_ofNat_Int, t10, t11]
      refine ways (fun e => ?_) (fun e => ?_)
      · have hjn : j < n := dlt e
        have hjl : j < l.length := by omega
        have heej := hx0.at (i := j) (by simpa using hjl)
        have hrowj : (l.map evC)[j]? = some (evC l[j]) := row_get (List.getElem?_eq_getElem hjl)
        have hklj : (j : Int) < l.length := by omega
        have hstj : (l.take (j + 1)).map (·.id) = (l.take j).map (·.id) ++ [(l[j]).id] := by
          rw [← List.take_append_getElem hjl, List.map_append]; rfl
        obtain ⟨v, hv⟩ : ∃ v, v = l[j] := ⟨_, rfl⟩
        rw [← hv] at hrowj hstj
        simp only [go_sem, Nat.reduceAdd, Nat.reduceMul, Nat.reduceSub, Nat.reduceLT, Nat.reduceLeDiff, Nat.reduceEqDiff, reduceIte, reduceCtorEq, Int.reduceEq, Int.reduceLT, Int.reduceLE, Int.reduceBEq, Int.reduceToNat, Int.reduceAdd, Int.cast_ofNat_Int]
        refine wp_draw rfl [] 0 [(0, 0, []), (1, 0, []), (5, 0, []), (6, 0, []), (2, 0, []), (3, 0, []), (4, 0, []), (7, 0, []), (8, 0, []), (9, 0, []), (10, 0, [])] rfl (by decide) (by decide) ?_
        simp only [go_sem, Nat.reduceAdd, Nat.reduceMul, Nat.reduceSub, Nat.reduceLT, Nat.reduceLeDiff, Nat.reduceEqDiff, reduceIte, reduceCtorEq, Int.reduceEq, Int.reduceLT, Int.reduceLE, Int.reduceBEq, Int.reduceToNat, Int.reduceAdd, Int.cast_ofNat_Int, t1, t10, t11, heej, hx0.rows, hrowj, hrow, hklj, hkl, List.length_map, Int.toNat_natCast, Int.natCast_nonneg]
        refine ways (fun e2 => ?_) (fun e2 => ?_)
        · simp only [go_sem, Nat.reduceAdd, Nat.reduceMul, Nat.reduceSub, Nat.reduceLT, Nat.reduceLeDiff, Nat.reduceEqDiff, reduceIte, reduceCtorEq, Int.reduceEq, Int.reduceLT, Int.reduceLE, Int.reduceBEq, Int.reduceToNat, Int.reduceAdd, Int.cast_ofNat_Int, t7]
          rw [hh0]
          (first | refine endA_pure0 ?_ | refine endA_pure ?_ (by rfl)) <;> (simp only [go_sem, Nat.reduceAdd, Nat.reduceMul, Nat.reduceSub, Nat.reduceLT, Nat.reduceLeDiff, Nat.reduceEqDiff, reduceIte, reduceCtorEq, Int.reduceEq, Int.reduceLT, Int.reduceLE, Int.reduceBEq, Int.reduceToNat, Int.reduceAdd, Int.cast_ofNat_Int] <;> try rfl)
        · have e2 : ¬ v.id = y.id := by simpa using e2
          simp only [go_sem, Nat.reduceAdd, Nat.reduceMul, Nat.reduceSub, Nat.reduceLT, Nat.reduceLeDiff, Nat.reduceEqDiff, reduceIte, reduceCtorEq, Int.reduceEq, Int.reduceLT, Int.reduceLE, Int.reduceBEq, Int.reduceToNat, Int.reduceAdd, Int.cast_ofNat_Int, t11]
          exact ⟨n - (j + 1), by omega, j + 1, by omega, (fun q => by
            rw [hstj] at q
            rcases List.mem_append.1 q with q | q
            · exact hin q
            · rw [List.mem_singleton] at q; exact e2 q.symm), t1, t2, t3, t7, t8, t9, t10, t_succ (by omega) rfl, rfl⟩
      · have hjn : n ≤ j := dnlt e
        have hj2 : j = n := by omega
        subst hj2
        have hnd2 : ((l.take (j + 1)).map (·.id)).Nodup := by
          rw [hndN, List.nodup_append]
          refine ⟨hnd, by simp, fun a ha b hb => ?_⟩
          rw [List.mem_singleton] at hb
          subst hb
          exact fun q => hin (q ▸ ha)
        simp only [go_sem, Nat.reduceAdd, Nat.reduceMul, Nat.reduceSub, Nat.reduceLT, Nat.reduceLeDiff, Nat.reduceEqDiff, reduceIte, reduceCtorEq, Int.reduceEq, Int.reduceLT, Int.reduceLE, Int.reduceBEq, Int.reduceToNat, Int.reduceAdd, Int.cast_ofNat_Int]
        refine wp_draw rfl [] 0 [(0, 0, []), (1, 0, []), (5, 0, []), (2, 0, []), (3, 0, []), (4, 0, []), (6, 0, []), (7, 0, []), (8, 0, []), (9, 0, []), (10, 0, []), (11, 0, []), (12, 0, []), (13, 0, []), (14, 0, []), (15, 0, []), (17, 0, []), (18, 0, []), (16, 0, []), (19, 0, []), (20, 0, []), (21, 0, []), (22, 0, [])] rfl (by decide) (by decide) ?_
        cases f1 : y.worker == w
        · have f1' : ¬ y.worker = w := by simpa using f1
          have z1 : kindE s w 1 y = false := by simp [kindE, f1']
          have z2 : kindE s w 2 y = false := by simp [kindE, f1']
          rw [z1] at hc1
          rw [z2] at hc2
          simp only [go_sem, Nat.reduceAdd, Nat.reduceMul, Nat.reduceSub, Nat.reduceLT, Nat.reduceLeDiff, Nat.reduceEqDiff, reduceIte, reduceCtorEq, Int.reduceEq, Int.reduceLT, Int.reduceLE, Int.reduceBEq, Int.reduceToNat, Int.reduceAdd, Int.cast_ofNat_Int, t1, t2, t3, t8, t9, t10, h30, hee, hx0.rows, hrow, hkl, List.length_map, Int.toNat_natCast, Int.natCast_nonneg, f1, bq_t]
          refine wp_draw rfl [] 0 [(0, 0, []), (1, 0, []), (5, 0, []), (2, 0, []), (3, 0, []), (4, 0, []), (6, 0, []), (7, 0, []), (8, 0, []), (9, 0, []), (10, 0, []), (11, 0, []), (12, 0, []), (13, 0, []), (14, 0, []), (15, 0, []), (17, 0, []), (18, 0, []), (16, 0, []), (19, 0, []), (20, 0, []), (21, 0, []), (22, 0, [])] rfl (by decide) (by decide) ?_
          simp only [go_sem, Nat.reduceAdd, Nat.reduceMul, Nat.reduceSub, Nat.reduceLT, Nat.reduceLeDiff, Nat.reduceEqDiff, reduceIte, reduceCtorEq, Int.reduceEq, Int.reduceLT, Int.reduceLE, Int.reduceBEq, Int.reduceToNat, Int.reduceAdd, Int.cast_ofNat_Int, t1, t2, t3, t8, t9, t10, h30, hee, hx0.rows, hrow, hkl, List.length_map, Int.toNat_natCast, Int.natCast_nonneg, f1, bq_t]
          exact ⟨l.length - (j + 1), by omega, j + 1, by omega, hnd2, t7, by rw [hc1]; simp, by rw [hc2]; simp, t_succ (by omega) rfl, rfl⟩
        · have f1' : y.worker = w := by simpa using f1
          by_cases g1 : y.kind = 1
          · have f2 : (y.kind == 1) = true := by simpa using g1
            have f3 : (y.kind == 2) = false := by simp [g1]
            simp only [go_sem, Nat.reduceAdd, Nat.reduceMul, Nat.reduceSub, Nat.reduceLT, Nat.reduceLeDiff, Nat.reduceEqDiff, reduceIte, reduceCtorEq, Int.reduceEq, Int.reduceLT, Int.reduceLE, Int.reduceBEq, Int.reduceToNat, Int.reduceAdd, Int.cast_ofNat_Int, t1, t2, t3, t8, t9, t10, h30, hee, hx0.rows, hrow, hkl, List.length_map, Int.toNat_natCast, Int.natCast_nonneg, f1, f2, bq_t]
            refine call_by (c14 _ s a k1 y) ?_
            rintro _ h4 ⟨rfl, rfl⟩
            cases f4 : evOk s y
            · have z1 : kindE s w 1 y = false := by simp [kindE, f1', g1, f4]
              have z2 : kindE s w 2 y = false := by simp [kindE, f1', g1, f4]
              rw [z1] at hc1
              rw [z2] at hc2
              simp only [go_sem, Nat.reduceAdd, Nat.reduceMul, Nat.reduceSub, Nat.reduceLT, Nat.reduceLeDiff, Nat.reduceEqDiff, reduceIte, reduceCtorEq, Int.reduceEq, Int.reduceLT, Int.reduceLE, Int.reduceBEq, Int.reduceToNat, Int.reduceAdd, Int.cast_ofNat_Int, t1, t2, t3, t8, t9, t10, h30, hee, hx0.rows, hrow, hkl, List.length_map, Int.toNat_natCast, Int.natCast_nonneg, f1, f2, f3, f4, bq_t]
              refine wp_draw rfl [] 0 [(0, 0, []), (1, 0, []), (5, 0, []), (2, 0, []), (3, 0, []), (4, 0, []), (6, 0, []), (7, 0, []), (8, 0, []), (9, 0, []), (10, 0, []), (11, 0, []), (12, 0, []), (13, 0, []), (14, 0, []), (15, 0, []), (17, 0, []), (18, 0, []), (16, 0, []), (19, 0, []), (20, 0, []), (21, 0, []), (22, 0, [])] rfl (by decide) (by decide) ?_
              simp only [go_sem, Nat.reduceAdd, Nat.reduceMul, Nat.reduceSub, Nat.reduceLT, Nat.reduceLeDiff, Nat.reduceEqDiff, reduceIte, reduceCtorEq, Int.reduceEq, Int.reduceLT, Int.reduceLE, Int.reduceBEq, Int.reduceToNat, Int.reduceAdd, Int.cast_ofNat_Int, t1, t2, t3, t8, t9, t10, h30, hee, hx0.rows, hrow, hkl, List.length_map, Int.toNat_natCast, Int.natCast_nonneg, f1, f2, f3, f4, bq_t]
              exact ⟨l.length - (j + 1), by omega, j + 1, by omega, hnd2, t7, by rw [hc1]; simp, by rw [hc2]; simp, t_succ (by omega) rfl, rfl⟩
            · have z1 : kindE s w 1 y = true := by simp [kindE, f1', g1, f4]
              have z2 : kindE s w 2 y = false := by simp [kindE, f1', g1, f4]
              rw [z1] at hc1
              rw [z2] at hc2
              simp only [go_sem, Nat.reduceAdd, Nat.reduceMul, Nat.reduceSub, Nat.reduceLT, Nat.reduceLeDiff, Nat.reduceEqDiff, reduceIte, reduceCtorEq, Int.reduceEq, Int.reduceLT, Int.reduceLE, Int.reduceBEq, Int.reduceToNat, Int.reduceAdd, Int.cast_ofNat_Int, t1, t2, t3, t8, t9, t10, h30, hee, hx0.rows, hrow, hkl, List.length_map, Int.toNat_natCast, Int.natCast_nonneg, f1, f2, f3, f4, bq_t]
              refine wp_draw rfl [] 0 [(0, 0, []), (1, 0, []), (5, 0, []), (2, 0, []), (3, 0, []), (4, 0, []), (6, 0, []), (7, 0, []), (8, 0, []), (9, 0, []), (10, 0, []), (11, 0, []), (12, 0, []), (13, 0, []), (14, 0, []), (15, 0, []), (17, 0, []), (18, 0, []), (16, 0, []), (19, 0, []), (20, 0, []), (21, 0, []), (22, 0, [])] rfl (by decide) (by decide) ?_
              simp only [go_sem, Nat.reduceAdd, Nat.reduceMul, Nat.reduceSub, Nat.reduceLT, Nat.reduceLeDiff, Nat.reduceEqDiff, reduceIte, reduceCtorEq, Int.reduceEq, Int.reduceLT, Int.reduceLE, Int.reduceBEq, Int.reduceToNat, Int.reduceAdd, Int.cast_ofNat_Int, t1, t2, t3, t8, t9, t10, h30, hee, hx0.rows, hrow, hkl, List.length_map, Int.toNat_natCast, Int.natCast_nonneg, f1, f2, f3, f4, bq_t]
              exact ⟨l.length - (j + 1), by omega, j + 1, by omega, hnd2, t7, t_succ (by omega) (by rw [hc1]; simp), by rw [hc2]; simp, t_succ (by omega) rfl, rfl⟩
          · have f2 : (y.kind == 1) = false := by simpa using g1
            by_cases g2 : y.kind = 2
            · have f3 : (y.kind == 2) = true := by simpa using g2
              simp only [go_sem, Nat.reduceAdd, Nat.reduceMul, Nat.reduceSub, Nat.reduceLT, Nat.reduceLeDiff, Nat.reduceEqDiff, reduceIte, reduceCtorEq, Int.reduceEq, Int.reduceLT, Int.reduceLE, Int.reduceBEq, Int.reduceToNat, Int.reduceAdd, Int.cast_ofNat_Int, t1, t2, t3, t8, t9, t10, h30, hee, hx0.rows, hrow, hkl, List.length_map, Int.toNat_natCast, Int.natCast_nonneg, f1, f2, bq_t]
              refine wp_draw rfl [] 0 [(0, 0, []), (1, 0, []), (5, 0, []), (2, 0, []), (3, 0, []), (4, 0, []), (6, 0, []), (7, 0, []), (8, 0, []), (9, 0, []), (10, 0, []), (11, 0, []), (12, 0, []), (13, 0, []), (14, 0, []), (15, 0, []), (17, 0, []), (18, 0, []), (16, 0, []), (19, 0, []), (20, 0, []), (21, 0, []), (22, 0, [])] rfl (by decide) (by decide) ?_
              simp only [go_sem, Nat.reduceAdd, Nat.reduceMul, Nat.reduceSub, Nat.reduceLT, Nat.reduceLeDiff, Nat.reduceEqDiff, reduceIte, reduceCtorEq, Int.reduceEq, Int.reduceLT, Int.reduceLE, Int.reduceBEq, Int.reduceToNat, Int.reduceAdd, Int.cast_ofNat_Int, t1, t2, t3, t8, t9, t10, h30, hee, hx0.rows, hrow, hkl, List.length_map, Int.toNat_natCast, Int.natCast_nonneg, f1, f2, f3, bq_t]
              refine call_by (c14 _ s a k1 y) ?_
              rintro _ h4 ⟨rfl, rfl⟩
              cases f4 : evOk s y
              · have z1 : kindE s w 1 y = false := by simp [kindE, f1', g2, f4]
                have z2 : kindE s w 2 y = false := by simp [kindE, f1', g2, f4]
                rw [z1] at hc1
                rw [z2] at hc2
                simp only [go_sem, Nat.reduceAdd, Nat.reduceMul, Nat.reduceSub, Nat.reduceLT, Nat.reduceLeDiff, Nat.reduceEqDiff, reduceIte, reduceCtorEq, Int.reduceEq, Int.reduceLT, Int.reduceLE, Int.reduceBEq, Int.reduceToNat, Int.reduceAdd, Int.cast_ofNat_Int, t1, t2, t3, t8, t9, t10, h30, hee, hx0.rows, hrow, hkl, List.length_map, Int.toNat_natCast, Int.natCast_nonneg, f1, f2, f3, f4, bq_t]
                exact ⟨l.length - (j + 1), by omega, j + 1, by omega, hnd2, t7, by rw [hc1]; simp, by rw [hc2]; simp, t_succ (by omega) rfl, rfl⟩
              · have z1 : kindE s w 1 y = false := by simp [kindE, f1', g2, f4]
                have z2 : kindE s w 2 y = true := by simp [kindE, f1', g2, f4]
                rw [z1] at hc1
                rw [z2] at hc2
                simp only [go_sem, Nat.reduceAdd, Nat.reduceMul, Nat.reduceSub, Nat.reduceLT, Nat.reduceLeDiff, Nat.reduceEqDiff, reduceIte, reduceCtorEq, Int.reduceEq, Int.reduceLT, Int.reduceLE, Int.reduceBEq, Int.reduceToNat, Int.reduceAdd, Int.cast_ofNat_Int, t1, t2, t3, t8, t9, t10, h30, hee, hx0.rows, hrow, hkl, List.length_map, Int.toNat_natCast, Int.natCast_nonneg, f1, f2, f3, f4, bq_t]
                exact ⟨l.length - (j + 1), by omega, j + 1, by omega, hnd2, t7, by rw [hc1]; simp, t_succ (by omega) (by rw [hc2]; simp), t_succ (by omega) rfl, rfl⟩
            · have f3 : (y.kind == 2) = false := by simpa using g2
              have z1 : kindE s w 1 y = false := by simp [kindE, f1', g1, g2]
              have z2 : kindE s w 2 y = false := by simp [kindE, f1', g1, g2]
              rw [z1] at hc1
              rw [z2] at hc2
              simp only [go_sem, Nat.reduceAdd, Nat.reduceMul, Nat.reduceSub, Nat.reduceLT, Nat.reduceLeDiff, Nat.reduceEqDiff, reduceIte, reduceCtorEq, Int.reduceEq, Int.reduceLT, Int.reduceLE, Int.reduceBEq, Int.reduceToNat, Int.reduceAdd, Int.cast_ofNat_Int, t1, t2, t3, t8, t9, t10, h30, hee, hx0.rows, hrow, hkl, List.length_map, Int.toNat_natCast, Int.natCast_nonneg, f1, f2, bq_t]
              refine wp_draw rfl [] 0 [(0, 0, []), (1, 0, []), (5, 0, []), (2, 0, []), (3, 0, []), (4, 0, []), (6, 0, []), (7, 0, []), (8, 0, []), (9, 0, []), (10, 0, []), (11, 0, []), (12, 0, []), (13, 0, []), (14, 0, []), (15, 0, []), (17, 0, []), (18, 0, []), (16, 0, []), (19, 0, []), (20, 0, []), (21, 0, []), (22, 0, [])] rfl (by decide) (by decide) ?_
              simp only [go_sem, Nat.reduceAdd, Nat.reduceMul, Nat.reduceSub, Nat.reduceLT, Nat.reduceLeDiff, Nat.reduceEqDiff, reduceIte, reduceCtorEq, Int.reduceEq, Int.reduceLT, Int.reduceLE, Int.reduceBEq, Int.reduceToNat, Int.reduceAdd, Int.cast_ofNat_Int, t1, t2, t3, t8, t9, t10, h30, hee, hx0.rows, hrow, hkl, List.length_map, Int.toNat_natCast, Int.natCast_nonneg, f1, f2, f3, bq_t]
              exact ⟨l.length - (j + 1), by omega, j + 1, by omega, hnd2, t7, by rw [hc1]; simp, by rw [hc2]; simp, t_succ (by omega) rfl, rfl⟩
    · have hge := dnlt e
      have hn2 : n = l.length := by omega
      subst hn2
      rw [List.take_length] at hnd t8 t9
      have e8 : l.countP (kindE s w 1) = l.countP fun e => selP s w e && e.kind == 1 := List.countP_congr fun x _ => by rw [kindE_sel (by decide)]
      have e9 : l.countP (kindE s w 2) = l.countP fun e => selP s w e && e.kind == 2 := List.countP_congr fun x _ => by rw [kindE_sel (by decide)]
      rw [e8] at t8
      rw [e9] at t9
      obtain ⟨G, hG, hGm, hGn, hGc⟩ := stream_flags (w := w) q2 hnd
      have hi1 := List.countP_le_length (p := fun e => selP s w e && e.kind == 1) (l := l)
      have hi2 := List.countP_le_length (p := fun e => selP s w e && e.kind == 2) (l := l)
      obtain ⟨ni, hni⟩ : ∃ ni, ni = l.countP fun e => selP s w e && e.kind == 1 := ⟨_, rfl⟩
      obtain ⟨no, hno⟩ : ∃ no, no = l.countP fun e => selP s w e && e.kind == 2 := ⟨_, rfl⟩
      rw [← hni] at t8 hGc hi1
      rw [← hno] at t9 hGc hi2
      clear e8 e9 hni hno
      simp only [go_sem, Nat.reduceAdd, Nat.reduceMul, Nat.reduceSub, Nat.reduceLT, Nat.reduceLeDiff, Nat.reduceEqDiff, reduceIte, reduceCtorEq, Int.reduceEq, Int.reduceLT, Int.reduceLE, Int.reduceBEq, Int.reduceToNat, Int.reduceAdd, Int.cast_ofNat_Int, t1, t2, t3, h30, k1.w.one, k1.e.one, k1.c.one, k1.g.one, k1.r.one, k1.t.one]
      refine call_by (c21 _ s a k1 f x l w hx0 (by omega)) ?_
      rintro _ h4 ⟨L1, y1, z1, rfl, m1, rfl, ny1, nz1⟩
      have hfl : (streamP s l w).2.length < 1048576 := stream_len2 hl
      rw [hG] at nz1 hfl
      rw [List.length_map] at hfl
      obtain ⟨h5, hh5⟩ : ∃ h5, h5 = h' ++ L1 := ⟨_, rfl⟩
      have hx5 : SlOf h5 x 11 (l.map evC) := by rw [hh5]; exact hx0.app _
      have hz5 : SlOf h5 z1 2 ((G.map fun p => (⟨p.1.id, p.2⟩ : Flg)).map flgC) := by rw [hh5]; exact nz1 _ rfl
      have hz5r := hz5.rows
      simp only [go_sem, Nat.reduceAdd, Nat.reduceMul, Nat.reduceSub, Nat.reduceLT, Nat.reduceLeDiff, Nat.reduceEqDiff, reduceIte, reduceCtorEq, Int.reduceEq, Int.reduceLT, Int.reduceLE, Int.reduceBEq, Int.reduceToNat, Int.reduceAdd, Int.cast_ofNat_Int]
      rw [← hh5]
      refine wp_loop_a (by decide) (fun m T h2 => h2 = h5 ∧ ∃ i : Nat, i ≤ G.length ∧ T 1 = x ∧ T 7 = bl true ∧ T 8 = i64 ni ∧ T 9 = i64 no ∧ T 13 = z1 ∧ T 14 = i64 ((G.take i).countP fun p => p.1.kind == 1 : Nat) ∧ T 15 = i64 ((G.take i).countP fun p => p.1.kind == 2 : Nat) ∧ T 16 = i64 i ∧ m = G.length - i) G.length
        ⟨rfl, 0, by omega, by simp only [go_sem, Nat.reduceAdd, Nat.reduceMul, Nat.reduceSub, Nat.reduceLT, Nat.reduceLeDiff, Nat.reduceEqDiff, reduceIte, reduceCtorEq, Int.reduceEq, Int.reduceLT, Int.reduceLE, Int.reduceBEq, Int.reduceToNat, Int.reduceAdd, Int.cast_ofNat_Int, t1], by simp only [go_sem, Nat.reduceAdd, Nat.reduceMul, Nat.reduceSub, Nat.reduceLT, Nat.reduceLeDiff, Nat.reduceEqDiff, reduceIte, reduceCtorEq, Int.reduceEq, Int.reduceLT, Int.reduceLE, Int.reduceBEq, Int.reduceToNat, Int.reduceAdd, Int.cast_ofNat_Int, t7], by simp only [go_sem, Nat.reduceAdd, Nat.reduceMul, Nat.reduceSub, Nat.reduceLT, Nat.reduceLeDiff, Nat.reduceEqDiff, reduceIte, reduceCtorEq, Int.reduceEq, Int.reduceLT, Int.reduceLE, Int.reduceBEq, Int.reduceToNat, Int.reduceAdd, Int.cast_ofNat_Int, t8], by simp only [go_sem, Nat.reduceAdd, Nat.reduceMul, Nat.reduceSub, Nat.reduceLT, Nat.reduceLeDiff, Nat.reduceEqDiff, reduceIte, reduceCtorEq, Int.reduceEq, Int.reduceLT, Int.reduceLE, Int.reduceBEq, Int.reduceToNat, Int.reduceAdd, Int.cast_ofNat_Int, t9], by simp only [go_sem, Nat.reduceAdd, Nat.reduceMul, Nat.reduceSub, Nat.reduceLT, Nat.reduceLeDiff, Nat.reduceEqDiff, reduceIte, reduceCtorEq, Int.reduceEq, Int.reduceLT, Int.reduceLE, Int.reduceBEq, Int.reduceToNat, Int.reduceAdd, Int.cast_ofNat_Int], by (simp only [go_sem, Nat.reduceAdd, Nat.reduceMul, Nat.reduceSub, Nat.reduceLT, Nat.reduceLeDiff, Nat.reduceEqDiff, reduceIte, reduceCtorEq, Int.reduceEq, Int.reduceLT, Int.reduceLE, Int.reduceBEq, Int.reduceToNat, Int.reduceAdd, Int.cast_ofNat_Int] <;> rfl), by (simp only [go_sem, Nat.reduceAdd, Nat.reduceMul, Nat.reduceSub, Nat.reduceLT, Nat.reduceLeDiff, Nat.reduceEqDiff, reduceIte, reduceCtorEq, Int.reduceEq, Int.reduceLT, Int.reduceLE, Int.reduceBEq, Int.reduceToNat, Int.reduceAdd, Int.cast_ofNat_Int] <;> rfl), by (simp only [go_sem, Nat.reduceAdd, Nat.reduceMul, Nat.reduceSub, Nat.reduceLT, Nat.reduceLeDiff, Nat.reduceEqDiff, reduceIte, reduceCtorEq, Int.reduceEq, Int.reduceLT, Int.reduceLE, Int.reduceBEq, Int.reduceToNat, Int.reduceAdd, Int.cast_ofNat_Int] <;> rfl), rfl⟩ ?_
      clear t1 t2 t3 t7 t8 t9 t10
      rintro m T h2 ⟨rfl, i, hi, t1, t7, t8, t9, t13, t14, t15, t16, rfl⟩
      simp only [go_sem, Nat.reduceAdd, Nat.reduceMul, Nat.reduceSub, Nat.reduceLT, Nat.reduceLeDiff, Nat.reduceEqDiff, reduceIte, reduceCtorEq, Int.reduceEq, Int.reduceLT, Int.reduceLE, Int.reduceBEq, Int.reduceToNat, Int.reduceAdd, Int.cast_ofNat_Int, t13, t16, hz5r, List.length_map]
      refine ways (fun e => ?_) (fun e => ?_)
      · have hlt := dlt e
        have hrowI : ((G.map fun p => (⟨p.1.id, p.2⟩ : Flg)).map flgC)[i]? = some [i64 G[i].1.id, i64 G[i].2] := by
          rw [List.getElem?_map, List.getElem?_map, List.getElem?_eq_getElem hlt]; rfl
        have heeI := hz5.at (i := i) (by simpa using hlt)
        have hklI : (i : Int) < G.length := by omega
        have hm := hGm G[i] (List.getElem_mem hlt)
        have hd1 := countP_snoc (fun p : Ev × Int => p.1.kind == 1) G i hlt
        have hd2 := countP_snoc (fun p : Ev × Int => p.1.kind == 2) G i hlt
        have hb1 := List.countP_le_length (p := fun p : Ev × Int => p.1.kind == 1) (l := G.take i)
        have hb2 := List.countP_le_length (p := fun p : Ev × Int => p.1.kind == 2) (l := G.take i)
        rw [List.length_take] at hb1 hb2
        have hdist : ∀ j (hj : j < i), (G[j]'(by omega)).1.id ≠ G[i].1.id := fun j hj => by
          have := List.pairwise_iff_getElem.1 hGn j i (by rw [List.length_map]; omega) (by rw [List.length_map]; exact hlt) hj
          simpa using this
        obtain ⟨g, hg⟩ : ∃ g, g = G[i] := ⟨_, rfl⟩
        rw [← hg] at hrowI hm hd1 hd2
        obtain ⟨o1, ho1⟩ : ∃ o1, o1 = (G.take i).countP fun p => p.1.kind == 1 := ⟨_, rfl⟩
        obtain ⟨o2, ho2⟩ : ∃ o2, o2 = (G.take i).countP fun p => p.1.kind == 2 := ⟨_, rfl⟩
        rw [← ho1] at t14 hd1 hb1
        rw [← ho2] at t15 hd2 hb2
        simp only [go_sem, Nat.reduceAdd, Nat.reduceMul, Nat.reduceSub, Nat.reduceLT, Nat.reduceLeDiff, Nat.reduceEqDiff, reduceIte, reduceCtorEq, Int.reduceEq, Int.reduceLT, Int.reduceLE, Int.reduceBEq, Int.reduceToNat, Int.reduceAdd, Int.cast_ofNat_Int]
        refine wp_loop_a (by decide) (fun m T h3 => h3 = h2 ∧ ∃ j : Nat, j ≤ i ∧ T 1 = x ∧ T 7 = bl true ∧ T 8 = i64 ni ∧ T 9 = i64 no ∧ T 13 = z1 ∧ T 14 = i64 o1 ∧ T 15 = i64 o2 ∧ T 16 = i64 i ∧ T 17 = i64 j ∧ m = i - j) i
          ⟨rfl, 0, by omega, by simp only [go_sem, Nat.reduceAdd, Nat.reduceMul, Nat.reduceSub, Nat.reduceLT, Nat.reduceLeDiff, Nat.reduceEqDiff, reduceIte, reduceCtorEq, Int.reduceEq, Int.reduceLT, Int.reduceLE, Int.reduceBEq, Int.reduceToNat, Int.reduceAdd, Int.cast_ofNat_Int, t1], by simp only [go_sem, Nat.reduceAdd, Nat.reduceMul, Nat.reduceSub, Nat.reduceLT, Nat.reduceLeDiff, Nat.reduceEqDiff, reduceIte, reduceCtorEq, Int.reduceEq, Int.reduceLT, Int.reduceLE, Int.reduceBEq, Int.reduceToNat, Int.reduceAdd, Int.cast_ofNat_Int, t7], by simp only [go_sem, Nat.reduceAdd, Nat.reduceMul, Nat.reduceSub, Nat.reduceLT, Nat.reduceLeDiff, Nat.reduceEqDiff, reduceIte, reduceCtorEq, Int.reduceEq, Int.reduceLT, Int.reduceLE, Int.reduceBEq, Int.reduceToNat, Int.reduceAdd, Int.cast_ofNat_Int, t8], by simp only [go_sem, Nat.reduceAdd, Nat.reduceMul, Nat.reduceSub, Nat.reduceLT, Nat.reduceLeDiff, Nat.reduceEqDiff, reduceIte, reduceCtorEq, Int.reduceEq, Int.reduceLT, Int.reduceLE, Int.reduceBEq, Int.reduceToNat, Int.reduceAdd, Int.cast_ofNat_Int, t9], by simp only [go_sem, Nat.reduceAdd, Nat.reduceMul, Nat.reduceSub, Nat.reduceLT, Nat.reduceLeDiff, Nat.reduceEqDiff, reduceIte, reduceCtorEq, Int.reduceEq, Int.reduceLT, Int.reduceLE, Int.reduceBEq, Int.reduceToNat, Int.reduceAdd, Int.cast_ofNat_Int, t13], by simp only [go_sem, Nat.reduceAdd, Nat.reduceMul, Nat.reduceSub, Nat.reduceLT, Nat.reduceLeDiff, Nat.reduceEqDiff, reduceIte, reduceCtorEq, Int.reduceEq, Int.reduceLT, Int.reduceLE, Int.reduceBEq, Int.reduceToNat, Int.reduceAdd, Int.cast_ofNat_Int, t14], by simp only [go_sem, Nat.reduceAdd, Nat.reduceMul, Nat.reduceSub, Nat.reduceLT, Nat.reduceLeDiff, Nat.reduceEqDiff, reduceIte, reduceCtorEq, Int.reduceEq, Int.reduceLT, Int.reduceLE, Int.reduceBEq, Int.reduceToNat, Int.reduceAdd, Int.cast_ofNat_Int, t15], by simp only [go_sem, Nat.reduceAdd, Nat.reduceMul, Nat.reduceSub, Nat.reduceLT, Nat.reduceLeDiff, Nat.reduceEqDiff, reduceIte, reduceCtorEq, Int.reduceEq, Int.reduceLT, Int.reduceLE, Int.reduceBEq, Int.reduceToNat, Int.reduceAdd, Int.cast_ofNat_Int, t16], by (simp only [go_sem, Nat.reduceAdd, Nat.reduceMul, Nat.reduceSub, Nat.reduceLT, Nat.reduceLeDiff, Nat.reduceEqDiff, reduceIte, reduceCtorEq, Int.reduceEq, Int.reduceLT, Int.reduceLE, Int.reduceBEq, Int.reduceToNat, Int.reduceAdd, Int.cast_ofNat_Int] <;> rfl), rfl⟩ ?_
        clear t1 t7 t8 t9 t13 t14 t15 t16
        rintro m T h3 ⟨rfl, j, hj, t1, t7, t8, t9, t13, t14, t15, t16, t17, rfl⟩
        simp only [go_sem, Nat.reduceAdd, Nat.reduceMul, Nat.reduceSub, Nat.reduceLT, Nat.reduceLeDiff, Nat.reduceEqDiff, reduceIte, reduceCtorEq, Int.reduceEq, Int.reduceLT, Int.reduceLE, Int.reduceBEq, Int.reduceToNat, Int.reduceAdd, Int.cast_ofNat_Int, t16, t17]
        refine ways (fun e => ?_) (fun e => ?_)
        · have hji : j < i := dlt e
          have hjG : j < G.length := by omega
          have hrowJ : ((G.map fun p => (⟨p.1.id, p.2⟩ : Flg)).map flgC)[j]? = some [i64 G[j].1.id, i64 G[j].2] := by
            rw [List.getElem?_map, List.getElem?_map, List.getElem?_eq_getElem hjG]; rfl
          have heeJ := hz5.at (i := j) (by simpa using hjG)
          have hklJ : (j : Int) < G.length := by omega
          have hne : (G[j].1.id == g.1.id) = false := by
            rw [hg]; simpa using hdist j hji
          simp only [go_sem, Nat.reduceAdd, Nat.reduceMul, Nat.reduceSub, Nat.reduceLT, Nat.reduceLeDiff, Nat.reduceEqDiff, reduceIte, reduceCtorEq, Int.reduceEq, Int.reduceLT, Int.reduceLE, Int.reduceBEq, Int.reduceToNat, Int.reduceAdd, Int.cast_ofNat_Int]
          refine wp_draw rfl [] 0 [(0, 0, []), (1, 0, []), (5, 0, []), (6, 0, []), (2, 0, []), (3, 0, []), (4, 0, []), (7, 0, []), (8, 0, []), (9, 0, []), (10, 0, [])] rfl (by decide) (by decide) ?_
          simp only [go_sem, Nat.reduceAdd, Nat.reduceMul, Nat.reduceSub, Nat.reduceLT, Nat.reduceLeDiff, Nat.reduceEqDiff, reduceIte, reduceCtorEq, Int.reduceEq, Int.reduceLT, Int.reduceLE, Int.reduceBEq, Int.reduceToNat, Int.reduceAdd, Int.cast_ofNat_Int, t13, t16, t17, heeJ, hz5r, hrowJ, hrowI, hklJ, hklI, List.length_map, Int.toNat_natCast, Int.natCast_nonneg, hne, bq_t]
          exact ⟨i - (j + 1), by omega, j + 1, by omega, t1, t7, t8, t9, t14, t15, t_succ (by omega) rfl, rfl⟩
        · clear hj
          simp only [go_sem, Nat.reduceAdd, Nat.reduceMul, Nat.reduceSub, Nat.reduceLT, Nat.reduceLeDiff, Nat.reduceEqDiff, reduceIte, reduceCtorEq, Int.reduceEq, Int.reduceLT, Int.reduceLE, Int.reduceBEq, Int.reduceToNat, Int.reduceAdd, Int.cast_ofNat_Int]
          refine wp_loop_a (by decide) (fun m T h4 => h4 = h3 ∧ ∃ j : Nat, j ≤ l.length ∧ T 1 = x ∧ T 7 = bl true ∧ T 8 = i64 ni ∧ T 9 = i64 no ∧ T 13 = z1 ∧ T 14 = i64 ((o1 + (l.take j).countP fun x => x.id == g.1.id && x.kind == 1 : Nat) : Int) ∧ T 15 = i64 ((o2 + (l.take j).countP fun x => x.id == g.1.id && x.kind == 2 : Nat) : Int) ∧ T 16 = i64 i ∧ T 18 = i64 j ∧ m = l.length - j) l.length
            ⟨rfl, 0, by omega, by simp only [go_sem, Nat.reduceAdd, Nat.reduceMul, Nat.reduceSub, Nat.reduceLT, Nat.reduceLeDiff, Nat.reduceEqDiff, reduceIte, reduceCtorEq, Int.reduceEq, Int.reduceLT, Int.reduceLE, Int.reduceBEq, Int.reduceToNat, Int.reduceAdd, Int.cast_ofNat_Int, t1], by simp only [go_sem, Nat.reduceAdd, Nat.reduceMul, Nat.reduceSub, Nat.reduceLT, Nat.reduceLeDiff, Nat.reduceEqDiff, reduceIte, reduceCtorEq, Int.reduceEq, Int.reduceLT, Int.reduceLE, Int.reduceBEq, Int.reduceToNat, Int.reduceAdd, Int.cast_ofNat_Int, t7], by simp only [go_sem, Nat.reduceAdd, Nat.reduceMul, Nat.reduceSub, Nat.reduceLT, Nat.reduceLeDiff, Nat.reduceEqDiff, reduceIte, reduceCtorEq, Int.reduceEq, Int.reduceLT, Int.reduceLE, Int.reduceBEq, Int.reduceToNat, Int.reduceAdd, Int.cast_ofNat_Int, t8], by simp only [go_sem, Nat.reduceAdd, Nat.reduceMul, Nat.reduceSub, Nat.reduceLT, Nat.reduceLeDiff, Nat.reduceEqDiff, reduceIte, reduceCtorEq, Int.reduceEq, Int.reduceLT, Int.reduceLE, Int.reduceBEq, Int.reduceToNat, Int.reduceAdd, Int.cast_ofNat_Int, t9], by simp only [go_sem, Nat.reduceAdd, Nat.reduceMul, Nat.reduceSub, Nat.reduceLT, Nat.reduceLeDiff, Nat.reduceEqDiff, reduceIte, reduceCtorEq, Int.reduceEq, Int.reduceLT, Int.reduceLE, Int.reduceBEq, Int.reduceToNat, Int.reduceAdd, Int.cast_ofNat_Int, t13], by (simp only [go_sem, Nat.reduceAdd, Nat.reduceMul, Nat.reduceSub, Nat.reduceLT, Nat.reduceLeDiff, Nat.reduceEqDiff, reduceIte, reduceCtorEq, Int.reduceEq, Int.reduceLT, Int.reduceLE, Int.reduceBEq, Int.reduceToNat, Int.reduceAdd, Int.cast_ofNat_Int, t14] <;> simp), by (simp only [go_sem, Nat.reduceAdd, Nat.reduceMul, Nat.reduceSub, Nat.reduceLT, Nat.reduceLeDiff, Nat.reduceEqDiff, reduceIte, reduceCtorEq, Int.reduceEq, Int.reduceLT, Int.reduceLE, Int.reduceBEq, Int.reduceToNat, Int.reduceAdd, Int.cast_ofNat_Int, t15] <;> simp), by simp only [go_sem, Nat.reduceAdd, Nat.reduceMul, Nat.reduceSub, Nat.reduceLT, Nat.reduceLeDiff, Nat.reduceEqDiff, reduceIte, reduceCtorEq, Int.reduceEq, Int.reduceLT, Int.reduceLE, Int.reduceBEq, Int.reduceToNat, Int.reduceAdd, Int.cast_ofNat_Int, t16], by (simp only [go_sem, Nat.reduceAdd, Nat.reduceMul, Nat.reduceSub, Nat.reduceLT, Nat.reduceLeDiff, Nat.reduceEqDiff, reduceIte, reduceCtorEq, Int.reduceEq, Int.reduceLT, Int.reduceLE, Int.reduceBEq, Int.reduceToNat, Int.reduceAdd, Int.cast_ofNat_Int] <;> rfl), rfl⟩ ?_
          clear t1 t7 t8 t9 t13 t14 t15 t16 t17
          rintro m T h4 ⟨rfl, j, hj, t1, t7, t8, t9, t13, t14, t15, t16, t18, rfl⟩
          simp only [go_sem, Nat.reduceAdd, Nat.reduceMul, Nat.reduceSub, Nat.reduceLT, Nat.reduceLeDiff, Nat.reduceEqDiff, reduceIte, reduceCtorEq, Int.reduceEq, Int.reduceLT, Int.reduceLE, Int.reduceBEq, Int.reduceToNat, Int.reduceAdd, Int.cast_ofNat_Int, t1, t18, hx5.rows, List.length_map]
          refine ways (fun e => ?_) (fun e => ?_)
          · have hjl : j < l.length := dlt e
            have heeM := hx5.at (i := j) (by simpa using hjl)
            have hrowM : (l.map evC)[j]? = some (evC l[j]) := row_get (List.getElem?_eq_getElem hjl)
            have hklM : (j : Int) < l.length := by omega
            have hc1 := countP_snoc (fun x : Ev => x.id == g.1.id && x.kind == 1) l j hjl
            have hc2 := countP_snoc (fun x : Ev => x.id == g.1.id && x.kind == 2) l j hjl
            have hcb1 := List.countP_le_length (p := fun x : Ev => x.id == g.1.id && x.kind == 1) (l := l.take j)
            have hcb2 := List.countP_le_length (p := fun x : Ev => x.id == g.1.id && x.kind == 2) (l := l.take j)
            rw [List.length_take] at hcb1 hcb2
            have hsame : l[j].id = g.1.id → l[j] = g.1 := fun q => ev_same hnd (List.getElem_mem hjl) hm.1 q
            obtain ⟨y, hy⟩ : ∃ y, y = l[j] := ⟨_, rfl⟩
            rw [← hy] at hrowM hc1 hc2 hsame
            obtain ⟨n1, hn1⟩ : ∃ n1, n1 = (l.take j).countP fun x => x.id == g.1.id && x.kind == 1 := ⟨_, rfl⟩
            obtain ⟨n2, hn2⟩ : ∃ n2, n2 = (l.take j).countP fun x => x.id == g.1.id && x.kind == 2 := ⟨_, rfl⟩
            rw [← hn1] at t14 hc1 hcb1
            rw [← hn2] at t15 hc2 hcb2
            simp only [go_sem, Nat.reduceAdd, Nat.reduceMul, Nat.reduceSub, Nat.reduceLT, Nat.reduceLeDiff, Nat.reduceEqDiff, reduceIte, reduceCtorEq, Int.reduceEq, Int.reduceLT, Int.reduceLE, Int.reduceBEq, Int.reduceToNat, Int.reduceAdd, Int.cast_ofNat_Int]
            refine wp_draw rfl [] 0 [(0, 0, []), (1, 0, []), (5, 0, []), (6, 0, []), (2, 0, []), (3, 0, []), (4, 0, []), (7, 0, []), (8, 0, []), (9, 0, []), (10, 0, [])] rfl (by decide) (by decide) ?_
            by_cases g0 : y.id = g.1.id
            · have f0 : (y.id != g.1.id) = false := by simpa using g0
              have f0' : (y.id == g.1.id) = true := by simpa using g0
              have hyg := hsame g0
              simp only [go_sem, Nat.reduceAdd, Nat.reduceMul, Nat.reduceSub, Nat.reduceLT, Nat.reduceLeDiff, Nat.reduceEqDiff, reduceIte, reduceCtorEq, Int.reduceEq, Int.reduceLT, Int.reduceLE, Int.reduceBEq, Int.reduceToNat, Int.reduceAdd, Int.cast_ofNat_Int, t1, t13, t16, t18, heeI, heeM, hz5r, hx5.rows, hrowI, hrowM, hklI, hklM, List.length_map, Int.toNat_natCast, Int.natCast_nonneg, f0, bq_t]
              refine wp_draw rfl [] 0 [(0, 0, []), (1, 0, []), (6, 0, []), (7, 0, []), (2, 0, []), (3, 0, []), (4, 0, []), (5, 0, []), (8, 0, []), (9, 0, []), (10, 0, []), (11, 0, []), (12, 0, []), (13, 0, []), (14, 0, []), (15, 0, []), (16, 0, []), (17, 0, []), (18, 0, []), (19, 0, []), (20, 0, [])] rfl (by decide) (by decide) ?_
              by_cases g1 : y.kind = 1
              · have f1 : (y.kind == 1) = true := by simpa using g1
                have f2 : (y.kind == 2) = false := by simp [g1]
                rw [f0', f1] at hc1
                rw [f0', f2] at hc2
                have hk := hm.2.1 (hyg ▸ g1)
                by_cases g3 : g.2 = 1
                · have f3 : (g.2 == 1) = true := by simpa using g3
                  simp only [go_sem, Nat.reduceAdd, Nat.reduceMul, Nat.reduceSub, Nat.reduceLT, Nat.reduceLeDiff, Nat.reduceEqDiff, reduceIte, reduceCtorEq, Int.reduceEq, Int.reduceLT, Int.reduceLE, Int.reduceBEq, Int.reduceToNat, Int.reduceAdd, Int.cast_ofNat_Int, t1, t13, t16, t18, heeI, heeM, hz5r, hx5.rows, hrowI, hrowM, hklI, hklM, List.length_map, Int.toNat_natCast, Int.natCast_nonneg, f1, f3, bq_t, bne_self_eq_false]
                  simp only [go_sem, Nat.reduceAdd, Nat.reduceMul, Nat.reduceSub, Nat.reduceLT, Nat.reduceLeDiff, Nat.reduceEqDiff, reduceIte, reduceCtorEq, Int.reduceEq, Int.reduceLT, Int.reduceLE, Int.reduceBEq, Int.reduceToNat, Int.reduceAdd, Int.cast_ofNat_Int, t1, t13, t16, t18, heeI, heeM, hz5r, hx5.rows, hrowI, hrowM, hklI, hklM, List.length_map, Int.toNat_natCast, Int.natCast_nonneg, f1, f2, t14, t15]
                  exact ⟨l.length - (j + 1), by omega, j + 1, by omega, t7, t8, t9, t_succ (by omega) (by rw [hc1]; rfl), by rw [hc2]; rfl, t_succ (by omega) rfl, rfl⟩
                · have f3 : (g.2 == 1) = false := by simpa using g3
                  have f4 : (g.2 == 2) = true := by simp; omega
                  simp only [go_sem, Nat.reduceAdd, Nat.reduceMul, Nat.reduceSub, Nat.reduceLT, Nat.reduceLeDiff, Nat.reduceEqDiff, reduceIte, reduceCtorEq, Int.reduceEq, Int.reduceLT, Int.reduceLE, Int.reduceBEq, Int.reduceToNat, Int.reduceAdd, Int.cast_ofNat_Int, t1, t13, t16, t18, heeI, heeM, hz5r, hx5.rows, hrowI, hrowM, hklI, hklM, List.length_map, Int.toNat_natCast, Int.natCast_nonneg, f1, f3, f4, bq_t, bne_self_eq_false]
                  simp only [go_sem, Nat.reduceAdd, Nat.reduceMul, Nat.reduceSub, Nat.reduceLT, Nat.reduceLeDiff, Nat.reduceEqDiff, reduceIte, reduceCtorEq, Int.reduceEq, Int.reduceLT, Int.reduceLE, Int.reduceBEq, Int.reduceToNat, Int.reduceAdd, Int.cast_ofNat_Int, t1, t13, t16, t18, heeI, heeM, hz5r, hx5.rows, hrowI, hrowM, hklI, hklM, List.length_map, Int.toNat_natCast, Int.natCast_nonneg, f1, f2, t14, t15]
                  exact ⟨l.length - (j + 1), by omega, j + 1, by omega, t7, t8, t9, t_succ (by omega) (by rw [hc1]; rfl), by rw [hc2]; rfl, t_succ (by omega) rfl, rfl⟩
              · have f1 : (y.kind == 1) = false := by simpa using g1
                rw [f0', f1] at hc1
                have hk : ¬ (g.2 = 1 ∨ g.2 = 2) := fun q => g1 (hyg ▸ hm.2.2 q)
                have f3 : (g.2 == 1) = false := by simp; omega
                have f4 : (g.2 == 2) = false := by simp; omega
                by_cases g2 : y.kind = 2
                · have f2 : (y.kind == 2) = true := by simpa using g2
                  rw [f0', f2] at hc2
                  simp only [go_sem, Nat.reduceAdd, Nat.reduceMul, Nat.reduceSub, Nat.reduceLT, Nat.reduceLeDiff, Nat.reduceEqDiff, reduceIte, reduceCtorEq, Int.reduceEq, Int.reduceLT, Int.reduceLE, Int.reduceBEq, Int.reduceToNat, Int.reduceAdd, Int.cast_ofNat_Int, t1, t13, t16, t18, heeI, heeM, hz5r, hx5.rows, hrowI, hrowM, hklI, hklM, List.length_map, Int.toNat_natCast, Int.natCast_nonneg, f1, f3, f4, bq_t, bne_self_eq_false]
                  simp only [go_sem, Nat.reduceAdd, Nat.reduceMul, Nat.reduceSub, Nat.reduceLT, Nat.reduceLeDiff, Nat.reduceEqDiff, reduceIte, reduceCtorEq, Int.reduceEq, Int.reduceLT, Int.reduceLE, Int.reduceBEq, Int.reduceToNat, Int.reduceAdd, Int.cast_ofNat_Int, t1, t13, t16, t18, heeI, heeM, hz5r, hx5.rows, hrowI, hrowM, hklI, hklM, List.length_map, Int.toNat_natCast, Int.natCast_nonneg, f1, f2, t14, t15]
                  exact ⟨l.length - (j + 1), by omega, j + 1, by omega, t7, t8, t9, by rw [hc1]; rfl, t_succ (by omega) (by rw [hc2]; rfl), t_succ (by omega) rfl, rfl⟩
                · have f2 : (y.kind == 2) = false := by simpa using g2
                  rw [f0', f2] at hc2
                  simp only [go_sem, Nat.reduceAdd, Nat.reduceMul, Nat.reduceSub, Nat.reduceLT, Nat.reduceLeDiff, Nat.reduceEqDiff, reduceIte, reduceCtorEq, Int.reduceEq, Int.reduceLT, Int.reduceLE, Int.reduceBEq, Int.reduceToNat, Int.reduceAdd, Int.cast_ofNat_Int, t1, t13, t16, t18, heeI, heeM, hz5r, hx5.rows, hrowI, hrowM, hklI, hklM, List.length_map, Int.toNat_natCast, Int.natCast_nonneg, f1, f3, f4, bq_t, bne_self_eq_false]
                  simp only [go_sem, Nat.reduceAdd, Nat.reduceMul, Nat.reduceSub, Nat.reduceLT, Nat.reduceLeDiff, Nat.reduceEqDiff, reduceIte, reduceCtorEq, Int.reduceEq, Int.reduceLT, Int.reduceLE, Int.reduceBEq, Int.reduceToNat, Int.reduceAdd, Int.cast_ofNat_Int, t1, t13, t16, t18, heeI, heeM, hz5r, hx5.rows, hrowI, hrowM, hklI, hklM, List.length_map, Int.toNat_natCast, Int.natCast_nonneg, f1, f2, t14, t15]
                  exact ⟨l.length - (j + 1), by omega, j + 1, by omega, t7, t8, t9, by rw [hc1]; rfl, by rw [hc2]; rfl, t_succ (by omega) rfl, rfl⟩
            · have f0 : (y.id != g.1.id) = true := by simpa using g0
              have f0' : (y.id == g.1.id) = false := by simpa using g0
              rw [f0'] at hc1 hc2
              simp only [go_sem, Nat.reduceAdd, Nat.reduceMul, Nat.reduceSub, Nat.reduceLT, Nat.reduceLeDiff, Nat.reduceEqDiff, reduceIte, reduceCtorEq, Int.reduceEq, Int.reduceLT, Int.reduceLE, Int.reduceBEq, Int.reduceToNat, Int.reduceAdd, Int.cast_ofNat_Int, t1, t13, t16, t18, heeI, heeM, hz5r, hx5.rows, hrowI, hrowM, hklI, hklM, List.length_map, Int.toNat_natCast, Int.natCast_nonneg, f0, bq_t]
              exact ⟨l.length - (j + 1), by omega, j + 1, by omega, t7, t8, t9, by rw [hc1, t14]; rfl, by rw [hc2, t15]; rfl, t_succ (by omega) rfl, rfl⟩
          · have hjl : l.length ≤ j := dnlt e
            have hj2 : j = l.length := by omega
            subst hj2
            rw [List.take_length, count_one hnd hm.1] at t14 t15
            simp only [go_sem, Nat.reduceAdd, Nat.reduceMul, Nat.reduceSub, Nat.reduceLT, Nat.reduceLeDiff, Nat.reduceEqDiff, reduceIte, reduceCtorEq, Int.reduceEq, Int.reduceLT, Int.reduceLE, Int.reduceBEq, Int.reduceToNat, Int.reduceAdd, Int.cast_ofNat_Int, t16]
            exact ⟨G.length - (i + 1), by omega, i + 1, by omega, t1, t7, t8, t9, t13, by rw [hd1, t14], by rw [hd2, t15], t_succ (by omega) rfl, rfl⟩
      · have hge := dnlt e
        have hi2' : i = G.length := by omega
        subst hi2'
        rw [List.take_length] at t14 t15
        have hb1 := List.countP_le_length (p := fun p : Ev × Int => p.1.kind == 1) (l := G)
        have hb2 := List.countP_le_length (p := fun p : Ev × Int => p.1.kind == 2) (l := G)
        obtain ⟨o1, ho1⟩ : ∃ o1, o1 = G.countP fun p => p.1.kind == 1 := ⟨_, rfl⟩
        obtain ⟨o2, ho2⟩ : ∃ o2, o2 = G.countP fun p => p.1.kind == 2 := ⟨_, rfl⟩
        rw [← ho1] at t14 hGc hb1
        rw [← ho2] at t15 hGc hb2
        have w1 : IntKind.wrap .i64 ((ni : Int) - (o1 : Int)) = (ni : Int) - o1 := wr_fit (by unfold Fit; omega)
        have w2 : IntKind.wrap .i64 ((no : Int) - (o2 : Int)) = (ni : Int) - o1 := by
          rw [show (no : Int) - (o2 : Int) = (ni : Int) - o1 by omega]; exact w1
        simp only [go_sem, Nat.reduceAdd, Nat.reduceMul, Nat.reduceSub, Nat.reduceLT, Nat.reduceLeDiff, Nat.reduceEqDiff, reduceIte, reduceCtorEq, Int.reduceEq, Int.reduceLT, Int.reduceLE, Int.reduceBEq, Int.reduceToNat, Int.reduceAdd, Int.cast_ofNat_Int, t7, t8, t9, t14, t15, w1, w2, beq_self_eq_true, bq_t]
        rw [hh5, hh0, List.append_assoc]
        (first | refine endA_pure0 ?_ | refine endA_pure ?_ (by rfl)) <;> (simp only [go_sem, Nat.reduceAdd, Nat.reduceMul, Nat.reduceSub, Nat.reduceLT, Nat.reduceLeDiff, Nat.reduceEqDiff, reduceIte, reduceCtorEq, Int.reduceEq, Int.reduceLT, Int.reduceLE, Int.reduceBEq, Int.reduceToNat, Int.reduceAdd, Int.cast_ofNat_Int] <;> try rfl)
end Go.Proofs.Ytpdghiplnlhnfaa.Ax

namespace Go.Proofs.Ytpdghiplnlhnfaa.streamFlags
set_option linter.unusedSimpArgs false
set_option linter.unusedVariables false
open Go.ChangeShapes Go.WideShapes Go.ChangeAt Go.RowKit
open Go.ChangeMaps (open_string shut_string)
set_option linter.unusedVariables false

theorem own : ownKnob Try.prog.godebug = none := by kernel_rfl
theorem laidOut : laidOutB Try.prog = true := by kernel_rfl

/-- A slice of integers that came in. -/
def IsRow (k : IntKind) (w : World) (a : Option Addr) (len cap : Nat) (zs : List Int) : Prop :=
  (a = none ∧ len = 0 ∧ cap = 0 ∧ zs = []) ∨
  ∃ x, a = some x ∧ len ≤ cap ∧ cap ≤ maxLen ∧ zs.length = cap ∧ (∀ i, i < zs.length → w.cell? (x.add i) = some (.int k (zs.getD i 0))) ∧ ∀ n ∈ zs, (Lit.int k n).wf = true

/-! ### The walk. -/
theorem walk (x0 : Value) (x1 : Value) (a2 : Int) (w : World) (w0 : Ax.InSet w x0) (w1 : Ax.InEvs w x1) (w2 : (Lit.int .i64 a2).wf = true) :
    Calls Try.prog 9 #[x0, x1, .int .i64 a2] w fun e w' => e = .returned (.bool true) ∧ Below w.heap.size w w' := by
  obtain ⟨s, a, ha, ks, fs⟩ := w0
  obtain ⟨x, l, hx, sl⟩ := w1
  exact Ax.run_law (Ax.c9 [] s a ks fs x l sl a2) ⟨_, _, rfl, ha, _, _, rfl, hx, _, _, rfl, rfl, rfl⟩

/-! ### The row's step. -/
set_option maxRecDepth 100000 in
theorem lifted (os : Os) (started : os.Started) (H : Type) (enc : TypeId × Value → H) :
    ReturnsInHanded {} Try.checked os 9 .any (Rows.streamFlagsSpec.pre6 enc Try.prog Try.f9 Rows.streamFlagsRow.domain false) (Rows.streamFlagsSpec.post enc Try.prog Try.f9 false true false false) := by
  refine returnsInHanded_of_change (C := Try.checked) own started (by kernel_rfl) Try.func9
    (ChangeSpec.witness6 (enc := enc) (C := Try.checked) false ⟨#[], #[.agg #[.int .i64 0, .slice none 0 0, .int .i64 0, .int .i64 0, .slice none 0 0, .slice none 0 0, .slice none 0 0, .int .i64 0, .int .i64 0, .int .i64 0, .int .i64 0, .int .i64 0, .int .i64 0, .int .i64 0, .int .i64 0, .int .i64 0, .int .i64 0, .int .i64 0, .slice none 0 0, .int .i64 0, .int .i64 0, .int .i64 0, .slice none 0 0], .slice none 0 0, .int .i64 0], []⟩ 8 (by kernel_rfl) (by kernel_rfl) (by kernel_rfl) (by kernel_rfl)) ?_
  intro W base args ds gs before hval0 hW hcnd _
  have hval : ∀ (j : Nat) t v, Try.f9.params[j]? = some t → args[j]? = some v → Value.okWide Try.prog W .any base t v := hval0
  have hW' := hW
  obtain ⟨p, q, hA0, hV, rfl, hfz, hnd⟩ := hW
  have hA : DataW.TrodAll enc Try.prog W 0 (fun _ => true) true Try.f9.params.toList args.toList ds p := hA0
  rw [Try.params9] at hA hval
  obtain ⟨v0, vs0, d0, ds0, p0, q0, hargs, rfl, rfl, h0, r0⟩ := trodAll_cons hA
  obtain ⟨v1, vs1, d1, ds1, p1, q1, rfl, rfl, rfl, h1, r1⟩ := trodAll_cons r0
  obtain ⟨v2, vs2, d2, ds2, p2, q2, rfl, rfl, rfl, h2, r2⟩ := trodAll_cons r1
  obtain ⟨rfl, rfl, rfl⟩ := trodAll_nil r2
  obtain rfl : args = #[v0, v1, v2] := by cases args; simp_all
  obtain ⟨rfl, rfl⟩ := trodVars_none hV
  have k0 := h0
  have lt0 : ∀ x ∈ p0, x.block < W.heap.size := by obtain ⟨m, hm⟩ := k0; exact DataW.trod_lt m _ _ _ hm
  have w0 := Ax.setup_in (hval 0 30 v0 rfl rfl) h0
  have k1 := h1
  have lt1 : ∀ x ∈ p1, x.block < W.heap.size := by obtain ⟨m, hm⟩ := k1; exact DataW.trod_lt m _ _ _ hm
  obtain ⟨sa1, sl1, sc1, rfl⟩ := okWide_slice Try.underlying31 (hval 1 31 v1 rfl rfl)
  have w1 := (by obtain ⟨fuel, hf⟩ := h1; exact Ax.evs_in (v := .slice sa1 sl1 sc1) (by simpa [Value.cells] using hf) : Ax.InEvs W (.slice sa1 sl1 sc1))
  obtain ⟨a2, rfl, rfl, rfl, w2⟩ := open_int Try.underlying3 (hval 2 3 v2 rfl rfl) h2
  clear hA0 hval0
  refine (walk v0 (.slice sa1 sl1 sc1) a2 W w0 w1 w2).mono fun e W' ⟨he, bel⟩ => ?_
  subst he
  exact ⟨_, rfl, _, _, _, [], _, [], hW', trodAll_mk1 (shut_bool Try.underlying4 _), (trodAll_cons_mk (Below.trod laidOut (by kernel_rfl) (of_decide_eq_true (by kernel_rfl)) k0 bel lt0) (trodAll_cons_mk (Below.trod laidOut (by kernel_rfl) (of_decide_eq_true (by kernel_rfl)) k1 bel lt1) (trodAll_cons_mk (shut_int Try.underlying3 w2) trodAll_mk0))), rfl, bel.frame _, fun h => by cases h⟩

theorem over : Rows.streamFlagsRow.holds Try.pinned (OpenSpec.ofChange Rows.streamFlagsSpec) :=
  OpenClaim.holds_of_wide 9 Try.f9 rfl rfl rfl rfl rfl rfl rfl ⟨rfl, rfl, rfl, rfl, rfl⟩ rfl rfl rfl rfl rfl (by kernel_rfl) Try.func9 (by kernel_rfl)
    (of_decide_eq_true (by kernel_rfl)) (by unfold Func.isWrapper; first | (rw [if_pos (by decide +kernel)]; kernel_rfl) | (rw [if_neg (by decide +kernel)]; exact ⟨rfl, rfl⟩))
    (fun os started H enc _ => lifted os started H enc)

/-- The statement. -/
theorem proved : Rows.StreamFlagsSaid := over
#print axioms proved
end Go.Proofs.Ytpdghiplnlhnfaa.streamFlags
