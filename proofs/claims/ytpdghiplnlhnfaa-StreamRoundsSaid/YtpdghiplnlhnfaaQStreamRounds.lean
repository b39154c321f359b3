/-
  StreamRounds: whatever the input, the call returns true and leaves its arguments as they were. No condition.
-/
import Derived.Test.YtpdghiplnlhnfaaMY
import Derived.Test.YtpdghiplnlhnfaaRows
import Derived.WalkKit
import Derived.ProofKit
import Derived.OpenShut
import Derived.ShutString
import Derived.ChangeOld
import Derived.Below
import Derived.Deep.Matrix
namespace Go.Proofs.Ytpdghiplnlhnfaa.Ax
set_option linter.unusedSimpArgs false
set_option linter.unusedVariables false
open Go Go.Proofs
set_option maxRecDepth 100000
set_option linter.unusedSimpArgs false
set_option linter.unusedVariables false
theorem wantP_len (s : Setup) (l : List Seg) : (wantP s l).length ≤ l.length := by
  unfold wantP
  have := List.length_filter_le (fun g : Seg => decide (g.from_ < g.to_)) (l.map (rndG s))
  rwa [List.length_map] at this
set_option maxHeartbeats 2000000 in
theorem c11 (h : List Ob) (s : Setup) (a : SA) (k : SIn h s a) (f0 : SFit0 s) (x : AV) (l : List Ev) (hx : SlOf h x 11 (l.map evC)) (w : Int) :
    ACalls Try.prog 11 [setupV s a, x, i64 w] h fun r h' => r = bl true ∧ h' = h := by
  refine acalls_wp Try.f11 [.tmp 6] 109 rfl rfl rfl rfl rfl rfl (by decide) (⟨_, _, ⟨rfl, rfl⟩, .refl⟩) fun B => ?_
  simp only [go_sem, Nat.reduceAdd, Nat.reduceMul, Nat.reduceSub, Nat.reduceLT, Nat.reduceLeDiff, Nat.reduceEqDiff, reduceIte, reduceCtorEq, Int.reduceEq, Int.reduceLT, Int.reduceLE, Int.reduceBEq, Int.reduceToNat, Int.reduceAdd, Int.cast_ofNat_Int, k.w.one, k.e.one, k.c.one, k.g.one, k.r.one, k.t.one]
  refine call_by (c28 _) ?_
  rintro _ h1 ⟨rfl, rfl⟩
  have k1 := k.app [.box 30 (setupC s a)]
  simp only [go_sem, Nat.reduceAdd, Nat.reduceMul, Nat.reduceSub, Nat.reduceLT, Nat.reduceLeDiff, Nat.reduceEqDiff, reduceIte, reduceCtorEq, Int.reduceEq, Int.reduceLT, Int.reduceLE, Int.reduceBEq, Int.reduceToNat, Int.reduceAdd, Int.cast_ofNat_Int, k1.w.one, k1.e.one, k1.c.one, k1.g.one, k1.r.one, k1.t.one]
  refine call_by (c29 _ s a k1 x l (hx.app _)) ?_
  rintro _ h1 ⟨rfl, rfl⟩
  simp only [go_sem, Nat.reduceAdd, Nat.reduceMul, Nat.reduceSub, Nat.reduceLT, Nat.reduceLeDiff, Nat.reduceEqDiff, reduceIte, reduceCtorEq, Int.reduceEq, Int.reduceLT, Int.reduceLE, Int.reduceBEq, Int.reduceToNat, Int.reduceAdd, Int.cast_ofNat_Int]
  cases q1 : fewL 100 s l
  · simp only [go_sem, Nat.reduceAdd, Nat.reduceMul, Nat.reduceSub, Nat.reduceLT, Nat.reduceLeDiff, Nat.reduceEqDiff, reduceIte, reduceCtorEq, Int.reduceEq, Int.reduceLT, Int.reduceLE, Int.reduceBEq, Int.reduceToNat, Int.reduceAdd, Int.cast_ofNat_Int, q1, bq_t, Bool.not_false]
    (first | refine endA_pure0 ?_ | refine endA_pure ?_ (by rfl)) <;> (simp only [go_sem, Nat.reduceAdd, Nat.reduceMul, Nat.reduceSub, Nat.reduceLT, Nat.reduceLeDiff, Nat.reduceEqDiff, reduceIte, reduceCtorEq, Int.reduceEq, Int.reduceLT, Int.reduceLE, Int.reduceBEq, Int.reduceToNat, Int.reduceAdd, Int.cast_ofNat_Int] <;> try rfl)
  simp only [fewL, Bool.and_eq_true, decide_eq_true_eq] at q1
  obtain ⟨e1, hl⟩ := q1
  have q1 : fewL 100 s l = true := by simp [fewL, e1, hl]
  have f := f0.few e1
  simp only [go_sem, Nat.reduceAdd, Nat.reduceMul, Nat.reduceSub, Nat.reduceLT, Nat.reduceLeDiff, Nat.reduceEqDiff, reduceIte, reduceCtorEq, Int.reduceEq, Int.reduceLT, Int.reduceLE, Int.reduceBEq, Int.reduceToNat, Int.reduceAdd, Int.cast_ofNat_Int, q1, bq_t, Bool.not_true, k1.w.one, k1.e.one, k1.c.one, k1.g.one, k1.r.one, k1.t.one]
  refine call_by (c16 _ s a k1 f) ?_
  rintro _ h1 ⟨rfl, rfl⟩
  simp only [go_sem, Nat.reduceAdd, Nat.reduceMul, Nat.reduceSub, Nat.reduceLT, Nat.reduceLeDiff, Nat.reduceEqDiff, reduceIte, reduceCtorEq, Int.reduceEq, Int.reduceLT, Int.reduceLE, Int.reduceBEq, Int.reduceToNat, Int.reduceAdd, Int.cast_ofNat_Int]
  cases q2 : setupOk s
  · simp only [go_sem, Nat.reduceAdd, Nat.reduceMul, Nat.reduceSub, Nat.reduceLT, Nat.reduceLeDiff, Nat.reduceEqDiff, reduceIte, reduceCtorEq, Int.reduceEq, Int.reduceLT, Int.reduceLE, Int.reduceBEq, Int.reduceToNat, Int.reduceAdd, Int.cast_ofNat_Int, q2, bq_t, Bool.not_false]
    (first | refine endA_pure0 ?_ | refine endA_pure ?_ (by rfl)) <;> (simp only [go_sem, Nat.reduceAdd, Nat.reduceMul, Nat.reduceSub, Nat.reduceLT, Nat.reduceLeDiff, Nat.reduceEqDiff, reduceIte, reduceCtorEq, Int.reduceEq, Int.reduceLT, Int.reduceLE, Int.reduceBEq, Int.reduceToNat, Int.reduceAdd, Int.cast_ofNat_Int] <;> try rfl)
  · simp only [go_sem, Nat.reduceAdd, Nat.reduceMul, Nat.reduceSub, Nat.reduceLT, Nat.reduceLeDiff, Nat.reduceEqDiff, reduceIte, reduceCtorEq, Int.reduceEq, Int.reduceLT, Int.reduceLE, Int.reduceBEq, Int.reduceToNat, Int.reduceAdd, Int.cast_ofNat_Int, q2, bq_t, Bool.not_true, k1.w.one, k1.e.one, k1.c.one, k1.g.one, k1.r.one, k1.t.one]
    obtain ⟨h0, hh0⟩ : ∃ h0, h0 = h ++ [Ob.box 30 (setupC s a), Ob.box 30 (setupC (oneS s) a)] := ⟨_, rfl⟩
    have h30 : h0[h.length]? = some (.box 30 (setupC s a)) := by rw [hh0]; exact get_new0 rfl
    have h31 : h0[h.length + 1]? = some (.box 30 (setupC (oneS s) a)) := by rw [hh0]; exact get_new (k := 1) rfl
    have k1 : SIn h0 s a := by rw [hh0]; exact k.app _
    have k1o : SIn h0 (oneS s) a := ⟨k1.w, k1.e, k1.c, k1.g, k1.r, k1.t⟩
    have fo : SFit (oneS s) := ⟨f.places, f.pace, f.elements, f.classes, f.gears, f.tiers, f.nw, f.ne, f.nc, f.ng, f.nr, f.nt⟩
    have hx0 : SlOf h0 x 11 (l.map evC) := by rw [hh0]; exact hx.app _
    have hh1 : h ++ [Ob.box 30 (setupC s a), Ob.box 30 [i64 s.places, a.w, i64 s.pace.fst, i64 s.pace.snd, a.e, a.c, a.g, i64 s.allow, AV.v (Value.int IntKind.i64 1), i64 s.cap, i64 s.paidBreak, i64 s.autoAfter, i64 s.autoBreak, i64 s.dayReg, i64 s.dayOver, i64 s.weekReg, i64 s.nightFrom, i64 s.nightTo, a.r, i64 s.diff, i64 s.least, i64 s.fault, a.t]] = h0 := hh0.symm
    rw [hh1]
    refine wp_loop_a (by decide) (fun m T h' => ∃ n : Nat, n ≤ l.length ∧ Pre h0 h' ∧ OwnS h0 h' 35 11 (T 9) (((l.take n).filter punchP).map evC) ∧ T 1 = x ∧ T 2 = i64 w ∧ T 3 = .ptr h.length 0 ∧ T 7 = bl true ∧ T 8 = .ptr (h.length + 1) 0 ∧ T 10 = i64 n ∧ m = l.length - n) l.length
      ⟨0, by omega, Pre.refl, .inl ⟨by simp only [go_sem, Nat.reduceAdd, Nat.reduceMul, Nat.reduceSub, Nat.reduceLT, Nat.reduceLeDiff, Nat.reduceEqDiff, reduceIte, reduceCtorEq, Int.reduceEq, Int.reduceLT, Int.reduceLE, Int.reduceBEq, Int.reduceToNat, Int.reduceAdd, Int.cast_ofNat_Int], rfl⟩, by simp only [go_sem, Nat.reduceAdd, Nat.reduceMul, Nat.reduceSub, Nat.reduceLT, Nat.reduceLeDiff, Nat.reduceEqDiff, reduceIte, reduceCtorEq, Int.reduceEq, Int.reduceLT, Int.reduceLE, Int.reduceBEq, Int.reduceToNat, Int.reduceAdd, Int.cast_ofNat_Int], by simp only [go_sem, Nat.reduceAdd, Nat.reduceMul, Nat.reduceSub, Nat.reduceLT, Nat.reduceLeDiff, Nat.reduceEqDiff, reduceIte, reduceCtorEq, Int.reduceEq, Int.reduceLT, Int.reduceLE, Int.reduceBEq, Int.reduceToNat, Int.reduceAdd, Int.cast_ofNat_Int], by simp only [go_sem, Nat.reduceAdd, Nat.reduceMul, Nat.reduceSub, Nat.reduceLT, Nat.reduceLeDiff, Nat.reduceEqDiff, reduceIte, reduceCtorEq, Int.reduceEq, Int.reduceLT, Int.reduceLE, Int.reduceBEq, Int.reduceToNat, Int.reduceAdd, Int.cast_ofNat_Int], by simp only [go_sem, Nat.reduceAdd, Nat.reduceMul, Nat.reduceSub, Nat.reduceLT, Nat.reduceLeDiff, Nat.reduceEqDiff, reduceIte, reduceCtorEq, Int.reduceEq, Int.reduceLT, Int.reduceLE, Int.reduceBEq, Int.reduceToNat, Int.reduceAdd, Int.cast_ofNat_Int], by simp only [go_sem, Nat.reduceAdd, Nat.reduceMul, Nat.reduceSub, Nat.reduceLT, Nat.reduceLeDiff, Nat.reduceEqDiff, reduceIte, reduceCtorEq, Int.reduceEq, Int.reduceLT, Int.reduceLE, Int.reduceBEq, Int.reduceToNat, Int.reduceAdd, Int.cast_ofNat_Int], by (simp only [go_sem, Nat.reduceAdd, Nat.reduceMul, Nat.reduceSub, Nat.reduceLT, Nat.reduceLeDiff, Nat.reduceEqDiff, reduceIte, reduceCtorEq, Int.reduceEq, Int.reduceLT, Int.reduceLE, Int.reduceBEq, Int.reduceToNat, Int.reduceAdd, Int.cast_ofNat_Int] <;> rfl), rfl⟩ ?_
    rintro m T h' ⟨n, hn, hp, ho, t1, t2, t3, t7, t8, t10, rfl⟩
    have hx' := hp.sl hx0
    simp only [go_sem, Nat.reduceAdd, Nat.reduceMul, Nat.reduceSub, Nat.reduceLT, Nat.reduceLeDiff, Nat.reduceEqDiff, reduceIte, reduceCtorEq, Int.reduceEq, Int.reduceLT, Int.reduceLE, Int.reduceBEq, Int.reduceToNat, Int.reduceAdd, Int.cast_ofNat_Int, t1, t10, hx'.rows, List.length_map]
    refine ways (fun e => ?_) (fun e => ?_)
    · have hlt := dlt e
      have hee := hx'.at (i := n) (by simpa using hlt)
      have hrow : (l.map evC)[n]? = some (evC l[n]) := row_get (List.getElem?_eq_getElem hlt)
      have hkl : (n : Int) < l.length := by omega
      have hstep : (l.take (n + 1)).filter punchP = if punchP l[n] then (l.take n).filter punchP ++ [l[n]] else (l.take n).filter punchP := by
        rw [← List.take_append_getElem hlt, List.filter_append]
        cases hq : punchP l[n] <;> simp [hq]
      obtain ⟨y, hy⟩ : ∃ y, y = l[n] := ⟨_, rfl⟩
      rw [← hy] at hrow hstep
      have fin : n + 1 ≤ l.length := by omega
      have hA : List.length (evC y) = 11 := rfl
      have hcap : (((l.take n).filter punchP).length + 1) * 89 ≤ 140737488355328 := by
        have := List.length_filter_le punchP (l.take n)
        rw [List.length_take] at this
        omega
      have yes : punchP y = true → (y.kind == 1) = true ∨ ((y.kind == 1) = false ∧ (y.kind == 2) = true) := fun q => by
        unfold punchP at q
        cases h1 : y.kind == 1
        · rw [h1] at q; exact .inr ⟨rfl, q⟩
        · exact .inl rfl
      cases q : punchP y
      · have q1 : (y.kind == 1) = false ∧ (y.kind == 2) = false := by simpa [punchP] using q
        rw [q] at hstep
        simp only [Bool.false_eq_true, if_false] at hstep
        simp only [go_sem, Nat.reduceAdd, Nat.reduceMul, Nat.reduceSub, Nat.reduceLT, Nat.reduceLeDiff, Nat.reduceEqDiff, reduceIte, reduceCtorEq, Int.reduceEq, Int.reduceLT, Int.reduceLE, Int.reduceBEq, Int.reduceToNat, Int.reduceAdd, Int.cast_ofNat_Int, t1, t10, hee, hx'.rows, hrow, hkl, List.length_map, Int.toNat_natCast, Int.natCast_nonneg, q1.1, q1.2, bq_t]
        exact ⟨l.length - (n + 1), by omega, n + 1, fin, hp, by rw [hstep]; exact ho, t2, t3, t7, t8, t_succ (by omega) rfl, rfl⟩
      · rw [q] at hstep
        simp only [if_true] at hstep
        rcases yes q with q1 | ⟨q1, q2⟩
        · rcases ho with ⟨t9, hnil⟩ | ⟨id, st, u1, t9, u3⟩
          · simp only [go_sem, Nat.reduceAdd, Nat.reduceMul, Nat.reduceSub, Nat.reduceLT, Nat.reduceLeDiff, Nat.reduceEqDiff, reduceIte, reduceCtorEq, Int.reduceEq, Int.reduceLT, Int.reduceLE, Int.reduceBEq, Int.reduceToNat, Int.reduceAdd, Int.cast_ofNat_Int, t1, t9, t10, hee, hx'.rows, hrow, hkl, List.length_map, Int.toNat_natCast, Int.natCast_nonneg, q1, bq_t]
            refine ⟨l.length - (n + 1), by omega, n + 1, fin, hp.app (noRes_cons rfl (noRes1 rfl)), .inr ⟨_, _, by have := hp.len; omega, rfl, ?_⟩, t2, t3, t7, t8, t_succ (by omega) rfl, rfl⟩
            rw [hstep, List.map_append, hnil, get_new rfl]
            rfl
          · have hg : ∀ M, (h' ++ M)[id]? = some (.row 35 11 (((l.take n).filter punchP).map evC) st) := fun M => get_app_old u3
            simp only [go_sem, Nat.reduceAdd, Nat.reduceMul, Nat.reduceSub, Nat.reduceLT, Nat.reduceLeDiff, Nat.reduceEqDiff, reduceIte, reduceCtorEq, Int.reduceEq, Int.reduceLT, Int.reduceLE, Int.reduceBEq, Int.reduceToNat, Int.reduceAdd, Int.cast_ofNat_Int, t1, t9, t10, hg, hcap, hee, hx'.rows, hrow, hkl, List.length_map, Int.toNat_natCast, Int.natCast_nonneg, q1, bq_t]
            refine ⟨l.length - (n + 1), by omega, n + 1, fin, (hp.app (noRes1 rfl)).set u1 rfl, .inr ⟨id, st + 1, u1, rfl, ?_⟩, t2, t3, t7, t8, t_succ (by omega) rfl, rfl⟩
            rw [hstep, List.map_append]
            exact get_set_same (hg _)
        · rcases ho with ⟨t9, hnil⟩ | ⟨id, st, u1, t9, u3⟩
          · simp only [go_sem, Nat.reduceAdd, Nat.reduceMul, Nat.reduceSub, Nat.reduceLT, Nat.reduceLeDiff, Nat.reduceEqDiff, reduceIte, reduceCtorEq, Int.reduceEq, Int.reduceLT, Int.reduceLE, Int.reduceBEq, Int.reduceToNat, Int.reduceAdd, Int.cast_ofNat_Int, t1, t9, t10, hee, hx'.rows, hrow, hkl, List.length_map, Int.toNat_natCast, Int.natCast_nonneg, q1, q2, bq_t]
            refine ⟨l.length - (n + 1), by omega, n + 1, fin, hp.app (noRes_cons rfl (noRes1 rfl)), .inr ⟨_, _, by have := hp.len; omega, rfl, ?_⟩, t2, t3, t7, t8, t_succ (by omega) rfl, rfl⟩
            rw [hstep, List.map_append, hnil, get_new rfl]
            rfl
          · have hg : ∀ M, (h' ++ M)[id]? = some (.row 35 11 (((l.take n).filter punchP).map evC) st) := fun M => get_app_old u3
            simp only [go_sem, Nat.reduceAdd, Nat.reduceMul, Nat.reduceSub, Nat.reduceLT, Nat.reduceLeDiff, Nat.reduceEqDiff, reduceIte, reduceCtorEq, Int.reduceEq, Int.reduceLT, Int.reduceLE, Int.reduceBEq, Int.reduceToNat, Int.reduceAdd, Int.cast_ofNat_Int, t1, t9, t10, hg, hcap, hee, hx'.rows, hrow, hkl, List.length_map, Int.toNat_natCast, Int.natCast_nonneg, q1, q2, bq_t]
            refine ⟨l.length - (n + 1), by omega, n + 1, fin, (hp.app (noRes1 rfl)).set u1 rfl, .inr ⟨id, st + 1, u1, rfl, ?_⟩, t2, t3, t7, t8, t_succ (by omega) rfl, rfl⟩
            rw [hstep, List.map_append]
            exact get_set_same (hg _)
    · have hge := dnlt e
      have hn2 : n = l.length := by omega
      subst hn2
      rw [List.take_length] at ho
      have hg30 : ∀ M, (h' ++ M)[h.length]? = some (.box 30 (setupC s a)) := fun M => by
        obtain ⟨L, rfl, _⟩ := hp
        rw [List.append_assoc]; exact get_app_old h30
      have hg31 : ∀ M, (h' ++ M)[h.length + 1]? = some (.box 30 (setupC (oneS s) a)) := fun M => by
        obtain ⟨L, rfl, _⟩ := hp
        rw [List.append_assoc]; exact get_app_old h31
      have k2 := hp.sin k1
      have k2o := hp.sin k1o
      obtain ⟨pl, hpl⟩ : ∃ pl, pl = l.filter punchP := ⟨_, rfl⟩
      rw [← hpl] at ho
      have hpll : pl.length ≤ 100 := by rw [hpl]; exact Nat.le_trans (List.length_filter_le _ _) hl
      have hg31' : h'[h.length + 1]? = some (.box 30 (setupC (oneS s) a)) := by simpa using hg31 []
      simp only [go_sem, Nat.reduceAdd, Nat.reduceMul, Nat.reduceSub, Nat.reduceLT, Nat.reduceLeDiff, Nat.reduceEqDiff, reduceIte, reduceCtorEq, Int.reduceEq, Int.reduceLT, Int.reduceLE, Int.reduceBEq, Int.reduceToNat, Int.reduceAdd, Int.cast_ofNat_Int, t2, t8, hg31', k2.w.one, k2.e.one, k2.c.one, k2.g.one, k2.r.one, k2.t.one]
      refine call_by (c21 _ (oneS s) a k2o fo (T 9) pl w ho.rows (by omega)) ?_
      rintro _ h4 ⟨L1, y1, z1, rfl, n1, rfl, ny1, nz1⟩
      have k3 := k2.app L1
      simp only [go_sem, Nat.reduceAdd, Nat.reduceMul, Nat.reduceSub, Nat.reduceLT, Nat.reduceLeDiff, Nat.reduceEqDiff, reduceIte, reduceCtorEq, Int.reduceEq, Int.reduceLT, Int.reduceLE, Int.reduceBEq, Int.reduceToNat, Int.reduceAdd, Int.cast_ofNat_Int, t2, t3, hg30, k3.w.one, k3.e.one, k3.c.one, k3.g.one, k3.r.one, k3.t.one]
      refine call_by (c21 _ s a k3 f (T 9) pl w (ho.app L1).rows (by omega)) ?_
      rintro _ h4 ⟨L2, y2, z2, rfl, n2, rfl, ny2, nz2⟩
      obtain ⟨b, hb⟩ : ∃ b, b = (streamP s pl w).1 := ⟨_, rfl⟩
      obtain ⟨b1, hb1⟩ : ∃ b1, b1 = (streamP (oneS s) pl w).1 := ⟨_, rfl⟩
      rw [← hb] at ny2
      rw [← hb1] at ny1
      have hbl : b.length < 1048576 := by rw [hb]; exact stream_len hpll
      have hbl1 : b1.length < 1048576 := by rw [hb1]; exact stream_len hpll
      have hy2 : SlOf (h' ++ (L1 ++ L2)) y2 5 (b.map segC) := by
        rw [← List.append_assoc]; exact ny2 (h' ++ L1) rfl
      have hy1 : SlOf (h' ++ (L1 ++ L2)) y1 5 (b1.map segC) := by
        rw [← List.append_assoc]; exact (ny1 h' rfl).app L2
      have hp2 : Pre h (h' ++ (L1 ++ L2)) := by
        have : Pre h h0 := ⟨_, hh0, noRes_cons rfl (noRes1 rfl)⟩
        exact (this.trans hp).app (n1.app n2)
      simp only [go_sem, Nat.reduceAdd, Nat.reduceMul, Nat.reduceSub, Nat.reduceLT, Nat.reduceLeDiff, Nat.reduceEqDiff, reduceIte, reduceCtorEq, Int.reduceEq, Int.reduceLT, Int.reduceLE, Int.reduceBEq, Int.reduceToNat, Int.reduceAdd, Int.cast_ofNat_Int]
      obtain ⟨h5, hh5⟩ : ∃ h5, h5 = h' ++ (L1 ++ L2) := ⟨_, rfl⟩
      have hg305 : h5[h.length]? = some (.box 30 (setupC s a)) := by rw [hh5]; exact hg30 _
      rw [← hh5] at hy2 hy1 hp2 ⊢
      refine wp_loop_a (by decide) (fun m T h2 => ∃ j : Nat, j ≤ b1.length ∧ Pre h5 h2 ∧ OwnS h5 h2 53 5 (T 15) ((wantP s (b1.take j)).map segC) ∧ T 3 = .ptr h.length 0 ∧ T 7 = bl true ∧ T 11 = y1 ∧ T 13 = y2 ∧ T 16 = i64 j ∧ m = b1.length - j) b1.length
        ⟨0, by omega, Pre.refl, .inl ⟨by simp only [go_sem, Nat.reduceAdd, Nat.reduceMul, Nat.reduceSub, Nat.reduceLT, Nat.reduceLeDiff, Nat.reduceEqDiff, reduceIte, reduceCtorEq, Int.reduceEq, Int.reduceLT, Int.reduceLE, Int.reduceBEq, Int.reduceToNat, Int.reduceAdd, Int.cast_ofNat_Int], rfl⟩, by simp only [go_sem, Nat.reduceAdd, Nat.reduceMul, Nat.reduceSub, Nat.reduceLT, Nat.reduceLeDiff, Nat.reduceEqDiff, reduceIte, reduceCtorEq, Int.reduceEq, Int.reduceLT, Int.reduceLE, Int.reduceBEq, Int.reduceToNat, Int.reduceAdd, Int.cast_ofNat_Int, t3], by simp only [go_sem, Nat.reduceAdd, Nat.reduceMul, Nat.reduceSub, Nat.reduceLT, Nat.reduceLeDiff, Nat.reduceEqDiff, reduceIte, reduceCtorEq, Int.reduceEq, Int.reduceLT, Int.reduceLE, Int.reduceBEq, Int.reduceToNat, Int.reduceAdd, Int.cast_ofNat_Int, t7], by simp only [go_sem, Nat.reduceAdd, Nat.reduceMul, Nat.reduceSub, Nat.reduceLT, Nat.reduceLeDiff, Nat.reduceEqDiff, reduceIte, reduceCtorEq, Int.reduceEq, Int.reduceLT, Int.reduceLE, Int.reduceBEq, Int.reduceToNat, Int.reduceAdd, Int.cast_ofNat_Int], by simp only [go_sem, Nat.reduceAdd, Nat.reduceMul, Nat.reduceSub, Nat.reduceLT, Nat.reduceLeDiff, Nat.reduceEqDiff, reduceIte, reduceCtorEq, Int.reduceEq, Int.reduceLT, Int.reduceLE, Int.reduceBEq, Int.reduceToNat, Int.reduceAdd, Int.cast_ofNat_Int], by (simp only [go_sem, Nat.reduceAdd, Nat.reduceMul, Nat.reduceSub, Nat.reduceLT, Nat.reduceLeDiff, Nat.reduceEqDiff, reduceIte, reduceCtorEq, Int.reduceEq, Int.reduceLT, Int.reduceLE, Int.reduceBEq, Int.reduceToNat, Int.reduceAdd, Int.cast_ofNat_Int] <;> rfl), rfl⟩ ?_
      clear t1 t2 t3 t7 t8 t10 ho
      rintro m T h2 ⟨j, hj, hq, ho, t3, t7, t11, t13, t16, rfl⟩
      have hy1' := hq.sl hy1
      simp only [go_sem, Nat.reduceAdd, Nat.reduceMul, Nat.reduceSub, Nat.reduceLT, Nat.reduceLeDiff, Nat.reduceEqDiff, reduceIte, reduceCtorEq, Int.reduceEq, Int.reduceLT, Int.reduceLE, Int.reduceBEq, Int.reduceToNat, Int.reduceAdd, Int.cast_ofNat_Int, t11, t16, hy1'.rows, List.length_map]
      refine ways (fun e => ?_) (fun e => ?_)
      · have hlt := dlt e
        have hee := hy1'.at (i := j) (by simpa using hlt)
        have hrow : (b1.map segC)[j]? = some (segC b1[j]) := by rw [List.getElem?_map, List.getElem?_eq_getElem hlt]; rfl
        have hkl : (j : Int) < b1.length := by omega
        have hstep := wantP_snoc s (b1.take j) b1[j]
        rw [List.take_append_getElem hlt] at hstep
        obtain ⟨g, hg⟩ : ∃ g, g = b1[j] := ⟨_, rfl⟩
        rw [← hg] at hrow hstep
        have hg30' : ∀ M, (h2 ++ M)[h.length]? = some (.box 30 (setupC s a)) := fun M => by
          obtain ⟨L, rfl, _⟩ := hq
          rw [List.append_assoc]; exact get_app_old hg305
        have hA : List.length (segC g) = 5 := rfl
        simp only [go_sem, Nat.reduceAdd, Nat.reduceMul, Nat.reduceSub, Nat.reduceLT, Nat.reduceLeDiff, Nat.reduceEqDiff, reduceIte, reduceCtorEq, Int.reduceEq, Int.reduceLT, Int.reduceLE, Int.reduceBEq, Int.reduceToNat, Int.reduceAdd, Int.cast_ofNat_Int, t3, t11, t16, hg30', hee, hy1'.rows, hrow, hkl, List.length_map, Int.toNat_natCast, Int.natCast_nonneg]
        refine call_by (c36 g.from_ s.unit _) ?_
        rintro _ h4 ⟨rfl, e4⟩
        subst e4
        simp only [go_sem, Nat.reduceAdd, Nat.reduceMul, Nat.reduceSub, Nat.reduceLT, Nat.reduceLeDiff, Nat.reduceEqDiff, reduceIte, reduceCtorEq, Int.reduceEq, Int.reduceLT, Int.reduceLE, Int.reduceBEq, Int.reduceToNat, Int.reduceAdd, Int.cast_ofNat_Int, t3, hg30']
        refine call_by (c36 g.to_ s.unit _) ?_
        rintro _ h4 ⟨rfl, e4⟩
        subst e4
        simp only [go_sem, Nat.reduceAdd, Nat.reduceMul, Nat.reduceSub, Nat.reduceLT, Nat.reduceLeDiff, Nat.reduceEqDiff, reduceIte, reduceCtorEq, Int.reduceEq, Int.reduceLT, Int.reduceLE, Int.reduceBEq, Int.reduceToNat, Int.reduceAdd, Int.cast_ofNat_Int]
        refine ways (fun e2 => ?_) (fun e2 => ?_)
        · have e2 : (rndG s g).from_ < (rndG s g).to_ := by simpa [rndG] using e2
          rw [if_pos e2] at hstep
          rcases ho with ⟨t15, hnil⟩ | ⟨id, st, u1, t15, u3⟩
          · simp only [go_sem, Nat.reduceAdd, Nat.reduceMul, Nat.reduceSub, Nat.reduceLT, Nat.reduceLeDiff, Nat.reduceEqDiff, reduceIte, reduceCtorEq, Int.reduceEq, Int.reduceLT, Int.reduceLE, Int.reduceBEq, Int.reduceToNat, Int.reduceAdd, Int.cast_ofNat_Int, t15, t16]
            refine ⟨b1.length - (j + 1), by omega, j + 1, by omega, hq.app (noRes_cons rfl (noRes_cons rfl (noRes1 rfl))), .inr ⟨_, _, by have := hq.len; omega, rfl, ?_⟩, t3, t7, t11, t13, t_succ (by omega) rfl, rfl⟩
            rw [hstep, List.map_append, hnil, get_new rfl]
            rfl
          · have hcap : ((wantP s (b1.take j)).length + 1) * 41 ≤ 140737488355328 := by
              have := wantP_len s (b1.take j)
              rw [List.length_take] at this
              omega
            have hg' : ∀ M, (h2 ++ M)[id]? = some (.row 53 5 ((wantP s (b1.take j)).map segC) st) := fun M => get_app_old u3
            simp only [go_sem, Nat.reduceAdd, Nat.reduceMul, Nat.reduceSub, Nat.reduceLT, Nat.reduceLeDiff, Nat.reduceEqDiff, reduceIte, reduceCtorEq, Int.reduceEq, Int.reduceLT, Int.reduceLE, Int.reduceBEq, Int.reduceToNat, Int.reduceAdd, Int.cast_ofNat_Int, t15, t16, hg', hcap, List.length_map]
            refine ⟨b1.length - (j + 1), by omega, j + 1, by omega, (hq.app (noRes_cons rfl (noRes1 rfl))).set u1 rfl, .inr ⟨id, st + 1, u1, rfl, ?_⟩, t3, t7, t11, t13, t_succ (by omega) rfl, rfl⟩
            rw [hstep, List.map_append]
            exact get_set_same (hg' _)
        · have e2 : ¬ (rndG s g).from_ < (rndG s g).to_ := by simpa [rndG] using e2
          rw [if_neg e2] at hstep
          simp only [go_sem, Nat.reduceAdd, Nat.reduceMul, Nat.reduceSub, Nat.reduceLT, Nat.reduceLeDiff, Nat.reduceEqDiff, reduceIte, reduceCtorEq, Int.reduceEq, Int.reduceLT, Int.reduceLE, Int.reduceBEq, Int.reduceToNat, Int.reduceAdd, Int.cast_ofNat_Int, t16]
          exact ⟨b1.length - (j + 1), by omega, j + 1, by omega, hq.app (noRes1 rfl), by rw [hstep]; exact ho.app _, t3, t7, t11, t13, t_succ (by omega) rfl, rfl⟩
      · have hge := dnlt e
        have hj2 : j = b1.length := by omega
        subst hj2
        rw [List.take_length] at ho
        have hy2' := hq.sl hy2
        have hsame : b = wantP s b1 := by
          rw [hb, hb1, hpl]; exact stream_rounds q2
        have hwl := wantP_len s b1
        simp only [go_sem, Nat.reduceAdd, Nat.reduceMul, Nat.reduceSub, Nat.reduceLT, Nat.reduceLeDiff, Nat.reduceEqDiff, reduceIte, reduceCtorEq, Int.reduceEq, Int.reduceLT, Int.reduceLE, Int.reduceBEq, Int.reduceToNat, Int.reduceAdd, Int.cast_ofNat_Int, t7, t13]
        refine call_by (c33 _ y2 (T 15) b (wantP s b1) hy2' ho.rows (by omega) (by omega)) ?_
        rintro _ h4 ⟨rfl, rfl⟩
        rw [← hsame]
        simp only [go_sem, Nat.reduceAdd, Nat.reduceMul, Nat.reduceSub, Nat.reduceLT, Nat.reduceLeDiff, Nat.reduceEqDiff, reduceIte, reduceCtorEq, Int.reduceEq, Int.reduceLT, Int.reduceLE, Int.reduceBEq, Int.reduceToNat, Int.reduceAdd, Int.cast_ofNat_Int, decide_true]
        obtain ⟨L0, hL0, hN0⟩ := hp2.trans hq
        rw [hL0]
        (first | refine endA_pure0 ?_ | refine endA_pure ?_ (by rfl)) <;> (simp only [go_sem, Nat.reduceAdd, Nat.reduceMul, Nat.reduceSub, Nat.reduceLT, Nat.reduceLeDiff, Nat.reduceEqDiff, reduceIte, reduceCtorEq, Int.reduceEq, Int.reduceLT, Int.reduceLE, Int.reduceBEq, Int.reduceToNat, Int.reduceAdd, Int.cast_ofNat_Int] <;> try rfl)
end Go.Proofs.Ytpdghiplnlhnfaa.Ax

namespace Go.Proofs.Ytpdghiplnlhnfaa.streamRounds
set_option linter.unusedSimpArgs false
set_option linter.unusedVariables false
open Go.ChangeShapes Go.WideShapes Go.ChangeAt Go.RowKit
open Go.ChangeMaps (open_string shut_string)
set_option linter.unusedVariables false

theorem own : ownKnob Try.prog.godebug = none := by kernel_rfl
theorem laidOut : laidOutB Try.prog = true := by kernel_rfl

/-- A slice of integers that came in. -/
def IsRow (k : IntKind) (w : World) (a : Option Addr) (len cap : Nat) (zs : List Int) : Prop :=
  (a = none ∧ len = 0 ∧ cap = 0 ∧ zs = []) ∨
  ∃ x, a = some x ∧ len ≤ cap ∧ cap ≤ maxLen ∧ zs.length = cap ∧ (∀ i, i < zs.length → w.cell? (x.add i) = some (.int k (zs.getD i 0))) ∧ ∀ n ∈ zs, (Lit.int k n).wf = true

/-! ### The walk. -/
theorem walk (x0 : Value) (x1 : Value) (a2 : Int) (w : World) (w0 : Ax.InSet w x0) (w1 : Ax.InEvs w x1) (w2 : (Lit.int .i64 a2).wf = true) :
    Calls Try.prog 11 #[x0, x1, .int .i64 a2] w fun e w' => e = .returned (.bool true) ∧ Below w.heap.size w w' := by
  obtain ⟨s, a, ha, ks, fs⟩ := w0
  obtain ⟨x, l, hx, sl⟩ := w1
  exact Ax.run_law (Ax.c11 [] s a ks fs x l sl a2) ⟨_, _, rfl, ha, _, _, rfl, hx, _, _, rfl, rfl, rfl⟩

/-! ### The row's step. -/
set_option maxRecDepth 100000 in
theorem lifted (os : Os) (started : os.Started) (H : Type) (enc : TypeId × Value → H) :
    ReturnsInHanded {} Try.checked os 11 .any (Rows.streamRoundsSpec.pre6 enc Try.prog Try.f11 Rows.streamRoundsRow.domain false) (Rows.streamRoundsSpec.post enc Try.prog Try.f11 false true false false) := by
  refine returnsInHanded_of_change (C := Try.checked) own started (by kernel_rfl) Try.func11
    (ChangeSpec.witness6 (enc := enc) (C := Try.checked) false ⟨#[], #[.agg #[.int .i64 0, .slice none 0 0, .int .i64 0, .int .i64 0, .slice none 0 0, .slice none 0 0, .slice none 0 0, .int .i64 0, .int .i64 0, .int .i64 0, .int .i64 0, .int .i64 0, .int .i64 0, .int .i64 0, .int .i64 0, .int .i64 0, .int .i64 0, .int .i64 0, .slice none 0 0, .int .i64 0, .int .i64 0, .int .i64 0, .slice none 0 0], .slice none 0 0, .int .i64 0], []⟩ 8 (by kernel_rfl) (by kernel_rfl) (by kernel_rfl) (by kernel_rfl)) ?_
  intro W base args ds gs before hval0 hW hcnd _
  have hval : ∀ (j : Nat) t v, Try.f11.params[j]? = some t → args[j]? = some v → Value.okWide Try.prog W .any base t v := hval0
  have hW' := hW
  obtain ⟨p, q, hA0, hV, rfl, hfz, hnd⟩ := hW
  have hA : DataW.TrodAll enc Try.prog W 0 (fun _ => true) true Try.f11.params.toList args.toList ds p := hA0
  rw [Try.params11] at hA hval
  obtain ⟨v0, vs0, d0, ds0, p0, q0, hargs, rfl, rfl, h0, r0⟩ := trodAll_cons hA
  obtain ⟨v1, vs1, d1, ds1, p1, q1, rfl, rfl, rfl, h1, r1⟩ := trodAll_cons r0
  obtain ⟨v2, vs2, d2, ds2, p2, q2, rfl, rfl, rfl, h2, r2⟩ := trodAll_cons r1
  obtain ⟨rfl, rfl, rfl⟩ := trodAll_nil r2
  obtain rfl : args = #[v0, v1, v2] := by cases args; simp_all
  obtain ⟨rfl, rfl⟩ := trodVars_none hV
  have k0 := h0
  have lt0 : ∀ x ∈ p0, x.block < W.heap.size := by obtain ⟨m, hm⟩ := k0; exact DataW.trod_lt m _ _ _ hm
  have w0 := Ax.setup_in (hval 0 30 v0 rfl rfl) h0
  have k1 := h1
  have lt1 : ∀ x ∈ p1, x.block < W.heap.size := by obtain ⟨m, hm⟩ := k1; exact DataW.trod_lt m _ _ _ hm
  obtain ⟨sa1, sl1, sc1, rfl⟩ := okWide_slice Try.underlying31 (hval 1 31 v1 rfl rfl)
  have w1 := (by obtain ⟨fuel, hf⟩ := h1; exact Ax.evs_in (v := .slice sa1 sl1 sc1) (by simpa [Value.cells] using hf) : Ax.InEvs W (.slice sa1 sl1 sc1))
  obtain ⟨a2, rfl, rfl, rfl, w2⟩ := open_int Try.underlying3 (hval 2 3 v2 rfl rfl) h2
  clear hA0 hval0
  refine (walk v0 (.slice sa1 sl1 sc1) a2 W w0 w1 w2).mono fun e W' ⟨he, bel⟩ => ?_
  subst he
  exact ⟨_, rfl, _, _, _, [], _, [], hW', trodAll_mk1 (shut_bool Try.underlying4 _), (trodAll_cons_mk (Below.trod laidOut (by kernel_rfl) (of_decide_eq_true (by kernel_rfl)) k0 bel lt0) (trodAll_cons_mk (Below.trod laidOut (by kernel_rfl) (of_decide_eq_true (by kernel_rfl)) k1 bel lt1) (trodAll_cons_mk (shut_int Try.underlying3 w2) trodAll_mk0))), rfl, bel.frame _, fun h => by cases h⟩

theorem over : Rows.streamRoundsRow.holds Try.pinned (OpenSpec.ofChange Rows.streamRoundsSpec) :=
  OpenClaim.holds_of_wide 11 Try.f11 rfl rfl rfl rfl rfl rfl rfl ⟨rfl, rfl, rfl, rfl, rfl⟩ rfl rfl rfl rfl rfl (by kernel_rfl) Try.func11 (by kernel_rfl)
    (of_decide_eq_true (by kernel_rfl)) (by unfold Func.isWrapper; first | (rw [if_pos (by decide +kernel)]; kernel_rfl) | (rw [if_neg (by decide +kernel)]; exact ⟨rfl, rfl⟩))
    (fun os started H enc _ => lifted os started H enc)

/-- The statement. -/
theorem proved : Rows.StreamRoundsSaid := over
#print axioms proved
end Go.Proofs.Ytpdghiplnlhnfaa.streamRounds
