/-
  Joined: LClock. Nothing is proved here of a statement.
-/
import Derived.Test.YtpdghiplnlhnfaaMQ
import Derived.Test.YtpdghiplnlhnfaaMO
namespace Go.Proofs.Ytpdghiplnlhnfaa.Ax
set_option linter.unusedSimpArgs false
set_option linter.unusedVariables false
open Go Go.Proofs
set_option maxRecDepth 100000
set_option linter.unusedSimpArgs false
set_option linter.unusedVariables false
theorem stream_len {s : Setup} {l : List Ev} {w : Int} (hl : l.length ≤ 100) : (streamP s l w).1.length < 1048576 := by
  have hlen := stabE_len l
  have hsz : szT (goP s w (stabE l)) ≤ szT ⟨none, [], []⟩ + 3 * (stabE l).length := szT_go (stabE l)
  have hsz0 : szT ⟨none, [], []⟩ = 0 := rfl
  have h2 := szT_late (s := s) (t := goP s w (stabE l)) (at_ := 32054400)
  unfold streamP
  split
  · simp only [szT] at h2 hsz hsz0 ⊢
    omega
  · simp
set_option maxHeartbeats 2000000 in
theorem c10 (h : List Ob) (s : Setup) (a : SA) (k : SIn h s a) (f0 : SFit0 s) (x : AV) (l : List Ev) (hx : SlOf h x 11 (l.map evC)) (w : Int) :
    ACalls Try.prog 10 [setupV s a, x, i64 w] h fun r h' => r = bl true ∧ h' = h := by
  refine acalls_wp Try.f10 [.tmp 6] 101 rfl rfl rfl rfl rfl rfl (by decide) (⟨_, _, ⟨rfl, rfl⟩, .refl⟩) fun B => ?_
  simp only [go_sem, k.w.one, k.e.one, k.c.one, k.g.one, k.r.one, k.t.one]
  refine call_by (c28 _) ?_
  rintro _ h1 ⟨rfl, rfl⟩
  have k1 := k.app [.box 30 (setupC s a)]
  simp only [go_sem, k1.w.one, k1.e.one, k1.c.one, k1.g.one, k1.r.one, k1.t.one]
  refine call_by (c29 _ s a k1 x l (hx.app _)) ?_
  rintro _ h1 ⟨rfl, rfl⟩
  simp only [go_sem]
  refine ways (fun e => ?_) (fun e => ?_)
  · simp only [go_sem]
    (first | refine endA_pure0 ?_ | refine endA_pure ?_ (by rfl)) <;> (simp only [go_sem] <;> try rfl)
  · have e : fewL 100 s l = true := by simpa using e
    simp only [fewL, Bool.and_eq_true, decide_eq_true_eq] at e
    obtain ⟨e1, hl⟩ := e
    have f := f0.few e1
    simp only [go_sem]
    obtain ⟨h0, hh0⟩ : ∃ h0, h0 = h ++ [Ob.box 30 (setupC s a)] := ⟨_, rfl⟩
    have h30 : h0[h.length]? = some (.box 30 (setupC s a)) := by rw [hh0]; exact get_new0 rfl
    have hx0 : SlOf h0 x 11 (l.map evC) := by rw [hh0]; exact hx.app _
    rw [← hh0] at k1 ⊢
    refine wp_loop_a (by decide) (fun m T h' => ∃ n : Nat, n ≤ l.length ∧ Pre h0 h' ∧ OwnS h0 h' 35 11 (T 8) (((l.take n).filter punchP).map evC) ∧ T 1 = x ∧ T 2 = i64 w ∧ T 3 = .ptr h.length 0 ∧ T 7 = bl true ∧ T 9 = i64 n ∧ m = l.length - n) l.length
      ⟨0, by omega, Pre.refl, .inl ⟨by simp only [go_sem], rfl⟩, by simp only [go_sem], by simp only [go_sem], by simp only [go_sem], by simp only [go_sem], by (simp only [go_sem] <;> rfl), rfl⟩ ?_
    rintro m T h' ⟨n, hn, hp, ho, t1, t2, t3, t7, t9, rfl⟩
    have hx' := hp.sl hx0
    simp only [go_sem, t1, t9, hx'.rows, List.length_map]
    refine ways (fun e => ?_) (fun e => ?_)
    · have hlt := dlt e
      have hee := hx'.at (i := n) (by simpa using hlt)
      have hrow : (l.map evC)[n]? = some (evC l[n]) := row_get (List.getElem?_eq_getElem hlt)
      have hkl : (n : Int) < l.length := by omega
      have hstep : (l.take (n + 1)).filter punchP = if punchP l[n] then (l.take n).filter punchP ++ [l[n]] else (l.take n).filter punchP := by
        rw [← List.take_append_getElem hlt, List.filter_append]
        cases hq : punchP l[n] <;> simp [hq]
      obtain ⟨y, hy⟩ : ∃ y, y = l[n] := ⟨_, rfl⟩
      rw [← hy] at hrow hstep
      have fin : n + 1 ≤ l.length := by omega
      have hA : List.length (evC y) = 11 := rfl
      have hcap : (((l.take n).filter punchP).length + 1) * 89 ≤ 140737488355328 := by
        have := List.length_filter_le punchP (l.take n)
        rw [List.length_take] at this
        omega
      have yes : punchP y = true → (y.kind == 1) = true ∨ ((y.kind == 1) = false ∧ (y.kind == 2) = true) := fun q => by
        unfold punchP at q
        cases h1 : y.kind == 1
        · rw [h1] at q; exact .inr ⟨rfl, q⟩
        · exact .inl rfl
      cases q : punchP y
      · have q1 : (y.kind == 1) = false ∧ (y.kind == 2) = false := by simpa [punchP] using q
        rw [q] at hstep
        simp only [Bool.false_eq_true, if_false] at hstep
        simp only [go_sem, t1, t9, hee, hx'.rows, hrow, hkl, List.length_map, Int.toNat_natCast, Int.natCast_nonneg, q1.1, q1.2, bq_t]
        exact ⟨l.length - (n + 1), by omega, n + 1, fin, hp, by rw [hstep]; exact ho, t2, t3, t7, t_succ (by omega) rfl, rfl⟩
      · rw [q] at hstep
        simp only [if_true] at hstep
        rcases yes q with q1 | ⟨q1, q2⟩
        · rcases ho with ⟨t8, hnil⟩ | ⟨id, st, u1, t8, u3⟩
          · simp only [go_sem, t1, t8, t9, hee, hx'.rows, hrow, hkl, List.length_map, Int.toNat_natCast, Int.natCast_nonneg, q1, bq_t]
            refine ⟨l.length - (n + 1), by omega, n + 1, fin, hp.app (noRes_cons rfl (noRes1 rfl)), .inr ⟨_, _, by have := hp.len; omega, rfl, ?_⟩, t2, t3, t7, t_succ (by omega) rfl, rfl⟩
            rw [hstep, List.map_append, hnil, get_new rfl]
            rfl
          · have hg : ∀ M, (h' ++ M)[id]? = some (.row 35 11 (((l.take n).filter punchP).map evC) st) := fun M => get_app_old u3
            simp only [go_sem, t1, t8, t9, hg, hcap, hee, hx'.rows, hrow, hkl, List.length_map, Int.toNat_natCast, Int.natCast_nonneg, q1, bq_t]
            refine ⟨l.length - (n + 1), by omega, n + 1, fin, (hp.app (noRes1 rfl)).set u1 rfl, .inr ⟨id, st + 1, u1, rfl, ?_⟩, t2, t3, t7, t_succ (by omega) rfl, rfl⟩
            rw [hstep, List.map_append]
            exact get_set_same (hg _)
        · rcases ho with ⟨t8, hnil⟩ | ⟨id, st, u1, t8, u3⟩
          · simp only [go_sem, t1, t8, t9, hee, hx'.rows, hrow, hkl, List.length_map, Int.toNat_natCast, Int.natCast_nonneg, q1, q2, bq_t]
            refine ⟨l.length - (n + 1), by omega, n + 1, fin, hp.app (noRes_cons rfl (noRes1 rfl)), .inr ⟨_, _, by have := hp.len; omega, rfl, ?_⟩, t2, t3, t7, t_succ (by omega) rfl, rfl⟩
            rw [hstep, List.map_append, hnil, get_new rfl]
            rfl
          · have hg : ∀ M, (h' ++ M)[id]? = some (.row 35 11 (((l.take n).filter punchP).map evC) st) := fun M => get_app_old u3
            simp only [go_sem, t1, t8, t9, hg, hcap, hee, hx'.rows, hrow, hkl, List.length_map, Int.toNat_natCast, Int.natCast_nonneg, q1, q2, bq_t]
            refine ⟨l.length - (n + 1), by omega, n + 1, fin, (hp.app (noRes1 rfl)).set u1 rfl, .inr ⟨id, st + 1, u1, rfl, ?_⟩, t2, t3, t7, t_succ (by omega) rfl, rfl⟩
            rw [hstep, List.map_append]
            exact get_set_same (hg _)
    · have hge := dnlt e
      have hn2 : n = l.length := by omega
      subst hn2
      rw [List.take_length] at ho
      have hg30 : ∀ M, (h' ++ M)[h.length]? = some (.box 30 (setupC s a)) := fun M => by
        obtain ⟨L, rfl, _⟩ := hp
        rw [List.append_assoc]; exact get_app_old h30
      have k2 := hp.sin k1
      obtain ⟨pl, hpl⟩ : ∃ pl, pl = l.filter punchP := ⟨_, rfl⟩
      rw [← hpl] at ho
      have hpll : pl.length ≤ 100 := by rw [hpl]; exact Nat.le_trans (List.length_filter_le _ _) hl
      have hg30' : h'[h.length]? = some (.box 30 (setupC s a)) := by simpa using hg30 []
      simp only [go_sem, t1, t2, t3, hg30', k2.w.one, k2.e.one, k2.c.one, k2.g.one, k2.r.one, k2.t.one]
      refine call_by (c21 _ s a k2 f x l w hx' (by omega)) ?_
      rintro _ h4 ⟨L1, y1, z1, rfl, n1, rfl, ny1, nz1⟩
      have k3 := k2.app L1
      simp only [go_sem, t2, t3, hg30, k3.w.one, k3.e.one, k3.c.one, k3.g.one, k3.r.one, k3.t.one]
      refine call_by (c21 _ s a k3 f (T 8) pl w (ho.app L1).rows (by omega)) ?_
      rintro _ h4 ⟨L2, y2, z2, rfl, n2, rfl, ny2, nz2⟩
      obtain ⟨b, hb⟩ : ∃ b, b = (streamP s pl w).1 := ⟨_, rfl⟩
      obtain ⟨b1, hb1⟩ : ∃ b1, b1 = (streamP s l w).1 := ⟨_, rfl⟩
      rw [← hb] at ny2
      rw [← hb1] at ny1
      have hbl : b.length < 1048576 := by rw [hb]; exact stream_len hpll
      have hbl1 : b1.length < 1048576 := by rw [hb1]; exact stream_len hl
      have hy2 : SlOf (h' ++ (L1 ++ L2)) y2 5 (b.map segC) := by
        rw [← List.append_assoc]; exact ny2 (h' ++ L1) rfl
      have hy1 : SlOf (h' ++ (L1 ++ L2)) y1 5 (b1.map segC) := by
        rw [← List.append_assoc]; exact (ny1 h' rfl).app L2
      simp only [go_sem]
      refine wp_loop_a (by decide) (fun m T h2 => h2 = h' ++ (L1 ++ L2) ∧ ∃ j : Nat, j ≤ b.length ∧ T 3 = .ptr h.length 0 ∧ T 7 = bl true ∧ T 10 = y1 ∧ T 12 = y2 ∧ T 14 = i64 j ∧ m = b.length - j) b.length
        ⟨rfl, 0, by omega, by simp only [go_sem, t3], by simp only [go_sem, t7], by simp only [go_sem], by simp only [go_sem], by (simp only [go_sem] <;> rfl), rfl⟩ ?_
      clear t1 t2 t3 t7 t9
      rintro m T h2 ⟨rfl, j, hj, t3, t7, t10, t12, t14, rfl⟩
      simp only [go_sem, t12, t14, hy2.rows, List.length_map]
      refine ways (fun e => ?_) (fun e => ?_)
      · have hlt := dlt e
        have hee := hy2.at (i := j) (by simpa using hlt)
        have hrow : (b.map segC)[j]? = some (segC b[j]) := by rw [List.getElem?_map, List.getElem?_eq_getElem hlt]; rfl
        have hkl : (j : Int) < b.length := by omega
        have hmem : b[j] ∈ b := List.getElem_mem hlt
        obtain ⟨g, hg⟩ : ∃ g, g = b[j] := ⟨_, rfl⟩
        rw [← hg] at hrow hmem
        have hs : setupOk s = true := by
          cases q : setupOk s
          · rw [hb] at hmem; simp [streamP, q] at hmem
          · rfl
        obtain ⟨⟨u1, u2⟩, c1, c2⟩ := setup_times hs
        have hr := (stream_rise (l := pl) (w := w) hs).1.each g (by rw [← hb]; exact hmem)
        have hk := stream_b (s := s) (l := l) (w := w) g (by rw [← hpl, ← hb]; exact hmem)
        have q1 : (g.kind != 0) = false := by simp [hk.1]
        have hsub : IntKind.wrap .i64 (g.to_ - g.from_) = g.to_ - g.from_ := wr_fit (by unfold Fit; omega)
        have hadd : IntKind.wrap .i64 (s.cap + s.unit) = s.cap + s.unit := wr_fit (by unfold Fit; omega)
        have hgt : decide (g.to_ - g.from_ > s.cap + s.unit) = false := by simp; omega
        simp only [go_sem]
        refine wp_draw rfl [] 0 [(0, 0, []), (1, 0, []), (2, 0, []), (3, 0, []), (4, 0, []), (5, 0, []), (6, 0, []), (7, 0, []), (8, 0, []), (12, 0, []), (13, 0, []), (18, 0, []), (20, 0, []), (9, 0, []), (10, 0, []), (11, 0, []), (14, 0, []), (15, 0, []), (16, 0, []), (17, 0, []), (19, 0, []), (21, 0, []), (22, 0, []), (23, 0, []), (24, 0, [])] rfl (by decide) (by decide) ?_
        simp only [go_sem, t12, t14, t3, hg30, hee, hy2.rows, hrow, hkl, List.length_map, Int.toNat_natCast, Int.natCast_nonneg, q1, hsub, hadd, hgt, bq_t]
        exact ⟨b.length - (j + 1), by omega, j + 1, by omega, t7, t10, t_succ (by omega) rfl, rfl⟩
      · have hge := dnlt e
        simp only [go_sem, t7, t10, t12]
        refine call_by (c31 _ y1 b1 hy1 hbl1) ?_
        rintro r3 h4 ⟨L3, rfl, n3, nr3⟩
        have hr3 := nr3 _ rfl
        simp only [go_sem, t12]
        have hy2' := hy2.app L3
        simp only [List.append_assoc] at hr3 hy2'
        refine call_by (c31 _ y2 b hy2' hbl) ?_
        rintro r4 h4 ⟨L4, rfl, n4, nr4⟩
        have hr4 := nr4 _ rfl
        have hr3' := hr3.app L4
        simp only [List.append_assoc] at hr4 hr3'
        simp only [go_sem]
        have hsame : clockP b1 = clockP b := by
          rw [hb1, hb, hpl]; exact clock_same
        have n1' := normS_len (b1.map spS)
        have n2' := normS_len (b.map spS)
        rw [List.length_map] at n1' n2'
        refine call_by (c35 _ r3 r4 (clockP b1) (clockP b) hr3' hr4 (by unfold clockP; omega) (by unfold clockP; omega)) ?_
        rintro _ h4 ⟨rfl, rfl⟩
        rw [hsame]
        simp only [go_sem, decide_true]
        obtain ⟨L0, rfl, hN0⟩ := hp
        rw [hh0]
        simp only [List.append_assoc]
        (first | refine endA_pure0 ?_ | refine endA_pure ?_ (by rfl)) <;> (simp only [go_sem] <;> try rfl)
end Go.Proofs.Ytpdghiplnlhnfaa.Ax
