/-
  PerfGoals: without faults, and errors, what was earned is the sum of the goals of the week's tasks.
-/
import Derived.Test.YtpdghiplnlhnfaaNH
import Derived.Test.YtpdghiplnlhnfaaMQ
import Derived.Test.YtpdghiplnlhnfaaNL
import Derived.Test.YtpdghiplnlhnfaaMY
import Derived.Test.YtpdghiplnlhnfaaRows
import Derived.WalkKit
import Derived.ProofKit
import Derived.OpenShut
import Derived.ShutString
import Derived.ChangeOld
import Derived.Below
import Derived.Deep.Matrix
namespace Go.Proofs.Ytpdghiplnlhnfaa.Ax
set_option linter.unusedSimpArgs false
set_option linter.unusedVariables false
open Go Go.Proofs
set_option maxRecDepth 100000
set_option linter.unusedSimpArgs false
set_option linter.unusedVariables false
theorem goalsL_snoc {s : Setup} {l : List Ev} {k : Int} {L : List Seg} {i : Nat} (hi : i < L.length) : goalsL s l k (L.take (i + 1)) = goalsL s l k (L.take i) ++ if partOf k L[i] then goalsE s l L[i] else [] := by
  unfold goalsL
  rw [← List.take_append_getElem hi, List.filter_append, List.flatMap_append]
  congr 1
  cases h : partOf k L[i] <;> simp [h]
theorem goalsE_snoc {s : Setup} {l : List Ev} {g : Seg} {j : Nat} (hj : j < l.length) : goalsE s (l.take (j + 1)) g = goalsE s (l.take j) g ++ if l[j].id == g.id then [(goalP s l[j]).1] else [] := by
  unfold goalsE
  rw [← List.take_append_getElem hj, List.filter_append, List.map_append]
  congr 1
  cases h : l[j].id == g.id <;> simp [h]
theorem goalsE_len {s : Setup} {l : List Ev} {g : Seg} : (goalsE s l g).length ≤ l.length := by
  unfold goalsE
  rw [List.length_map]
  exact List.length_filter_le _ _
theorem goalsL_len {s : Setup} {l : List Ev} {k : Int} : ∀ L : List Seg, (goalsL s l k L).length ≤ L.length * l.length := fun L => by
  induction L with
  | nil => simp [goalsL]
  | cons g L ih =>
    unfold goalsL at ih ⊢
    rw [List.filter_cons, List.length_cons, Nat.succ_mul]
    have := goalsE_len (s := s) (l := l) (g := g)
    split
    · rw [List.flatMap_cons, List.length_append]; omega
    · omega
theorem goal_fit (s : Setup) (e : Ev) : FitR (goalP s e).1 := by
  have ht : ∀ (f : Rat2 → Rat2 → Rat2 × Int) (a b : Rat2) (w : Int), FitR (f a b).1 → FitR (thenP f a b w).1 := fun f a b w h => by
    unfold thenP
    simp only
    split
    · exact h
    · exact ⟨⟨by decide, by decide⟩, ⟨by decide, by decide⟩⟩
  unfold goalP
  split
  · split
    · exact ⟨by simp [Fit], by simp [Fit]⟩
    · split
      · unfold stepsP
        exact ht _ _ _ _ (fit_two _ _ _)
      · exact ⟨by simp [Fit], by simp [Fit]⟩
  · exact ⟨by simp [Fit], by simp [Fit]⟩
set_option maxHeartbeats 8000000 in
theorem c5 (h : List Ob) (s : Setup) (a : SA) (k : SIn h s a) (f0 : SFit0 s) (x : AV) (l : List Ev) (hx : SlOf h x 11 (l.map evC)) (w wk : Int) :
    ACalls Try.prog 5 [setupV s a, x, i64 w, i64 wk] h fun r h' => r = bl true ∧ h' = h := by
  refine acalls_wp Try.f5 [.tmp 8] 207 rfl rfl rfl rfl rfl rfl (by decide) (⟨_, _, ⟨rfl, rfl⟩, .refl⟩) fun B => ?_
  simp only [go_sem, k.w.one, k.e.one, k.c.one, k.g.one, k.r.one, k.t.one]
  refine call_by (c12 _) ?_
  rintro _ h1 ⟨rfl, rfl⟩
  have k1 := k.app [.box 30 (setupC s a)]
  simp only [go_sem, k1.w.one, k1.e.one, k1.c.one, k1.g.one, k1.r.one, k1.t.one]
  refine call_by (c13 _ s a k1 x l (hx.app _)) ?_
  rintro _ h1 ⟨rfl, rfl⟩
  cases q1 : fewL 60 s l
  · simp only [go_sem, q1, bq_t, Bool.not_false]
    (first | refine endA_pure0 ?_ | refine endA_pure ?_ (by rfl)) <;> (simp only [go_sem] <;> try rfl)
  have q1' := q1
  simp only [fewL, Bool.and_eq_true, decide_eq_true_eq] at q1'
  obtain ⟨e1, hl⟩ := q1'
  have f := f0.few e1
  simp only [go_sem, q1, bq_t, Bool.not_true, k1.w.one, k1.e.one, k1.c.one, k1.g.one, k1.r.one, k1.t.one]
  refine call_by (c16 _ s a k1 f) ?_
  rintro _ h1 ⟨rfl, e2⟩
  rw [e2]
  clear e2 h1
  cases q2 : setupOk s
  · simp only [go_sem, q2, bq_t, Bool.not_false]
    (first | refine endA_pure0 ?_ | refine endA_pure ?_ (by rfl)) <;> (simp only [go_sem] <;> try rfl)
  simp only [go_sem, q2, bq_t, Bool.not_true, k1.w.one, k1.e.one, k1.c.one, k1.g.one, k1.r.one, k1.t.one]
  obtain ⟨h0, hh0⟩ : ∃ h0, h0 = h ++ [Ob.box 30 (setupC s a)] := ⟨_, rfl⟩
  have h30 : h0[h.length]? = some (.box 30 (setupC s a)) := by rw [hh0]; exact get_new0 rfl
  have hx0 : SlOf h0 x 11 (l.map evC) := by rw [hh0]; exact hx.app _
  rw [← hh0] at k1 ⊢
  refine wp_loop_a (by decide) (fun m T h' => h' = h0 ∧ ∃ n : Nat, n ≤ l.length ∧ ((l.take n).map (·.id)).Nodup ∧ (∀ e ∈ l.take n, e.kind ≠ 7) ∧ T 1 = x ∧ T 2 = i64 w ∧ T 3 = i64 wk ∧ T 4 = .ptr h.length 0 ∧ T 9 = bl true ∧ T 10 = i64 n ∧ m = l.length - n) l.length
    ⟨rfl, 0, by omega, .nil, by simp, by simp only [go_sem], by simp only [go_sem], by simp only [go_sem], by simp only [go_sem], by (simp only [go_sem] <;> rfl), by (simp only [go_sem] <;> rfl), rfl⟩ ?_
  rintro m T h' ⟨rfl, n, hn, hnd, hk7, t1, t2, t3, t4, t9, t10, rfl⟩
  simp only [go_sem, t1, t10, hx0.rows, List.length_map]
  refine ways (fun e => ?_) (fun e => ?_)
  · have hlt := dlt e
    have hee := hx0.at (i := n) (by simpa using hlt)
    have hrow : (l.map evC)[n]? = some (evC l[n]) := row_get (List.getElem?_eq_getElem hlt)
    have hkl : (n : Int) < l.length := by omega
    have hndN : (l.take (n + 1)).map (·.id) = (l.take n).map (·.id) ++ [(l[n]).id] := by
      rw [← List.take_append_getElem hlt, List.map_append]; rfl
    have hmem : ∀ e ∈ l.take (n + 1), e ∈ l.take n ∨ e = l[n] := fun e he => by
      rw [← List.take_append_getElem hlt] at he
      rcases List.mem_append.1 he with he | he
      · exact .inl he
      · exact .inr (List.mem_singleton.1 he)
    obtain ⟨y, hy⟩ : ∃ y, y = l[n] := ⟨_, rfl⟩
    rw [← hy] at hrow hndN hmem
    simp only [go_sem]
    refine wp_loop_a (by decide) (fun m T h3 => h3 = h' ∧ ∃ j : Nat, j ≤ n ∧ y.id ∉ (l.take j).map (·.id) ∧ T 1 = x ∧ T 2 = i64 w ∧ T 3 = i64 wk ∧ T 4 = .ptr h.length 0 ∧ T 9 = bl true ∧ T 10 = i64 n ∧ T 11 = i64 j ∧ m = n - j) n
      ⟨rfl, 0, by omega, by simp, by simp only [go_sem, t1], by simp only [go_sem, t2], by simp only [go_sem, t3], by simp only [go_sem, t4], by simp only [go_sem, t9], by simp only [go_sem, t10], by (simp only [go_sem] <;> rfl), rfl⟩ ?_
    clear t1 t2 t3 t4 t9 t10
    rintro m T h3 ⟨rfl, j, hj, hin, t1, t2, t3, t4, t9, t10, t11, rfl⟩
    simp only [go_sem, t10, t11]
    refine ways (fun e => ?_) (fun e => ?_)
    · have hjn : j < n := dlt e
      have hjl : j < l.length := by omega
      have heej := hx0.at (i := j) (by simpa using hjl)
      have hrowj : (l.map evC)[j]? = some (evC l[j]) := row_get (List.getElem?_eq_getElem hjl)
      have hklj : (j : Int) < l.length := by omega
      have hstj : (l.take (j + 1)).map (·.id) = (l.take j).map (·.id) ++ [(l[j]).id] := by
        rw [← List.take_append_getElem hjl, List.map_append]; rfl
      obtain ⟨v, hv⟩ : ∃ v, v = l[j] := ⟨_, rfl⟩
      rw [← hv] at hrowj hstj
      simp only [go_sem]
      refine wp_draw rfl [] 0 [(0, 0, []), (1, 0, []), (5, 0, []), (6, 0, []), (2, 0, []), (3, 0, []), (4, 0, []), (7, 0, []), (8, 0, []), (9, 0, []), (10, 0, [])] rfl (by decide) (by decide) ?_
      simp only [go_sem, t1, t10, t11, heej, hx0.rows, hrowj, hrow, hklj, hkl, List.length_map, Int.toNat_natCast, Int.natCast_nonneg]
      refine ways (fun e2 => ?_) (fun e2 => ?_)
      · simp only [go_sem, t9]
        rw [hh0]
        (first | refine endA_pure0 ?_ | refine endA_pure ?_ (by rfl)) <;> (simp only [go_sem] <;> try rfl)
      · have e2 : ¬ v.id = y.id := by simpa using e2
        simp only [go_sem, t11]
        exact ⟨n - (j + 1), by omega, j + 1, by omega, (fun q => by
          rw [hstj] at q
          rcases List.mem_append.1 q with q | q
          · exact hin q
          · rw [List.mem_singleton] at q; exact e2 q.symm), t1, t2, t3, t4, t9, t10, t_succ (by omega) rfl, rfl⟩
    · have hjn : n ≤ j := dnlt e
      have hj2 : j = n := by omega
      subst hj2
      have hnd2 : ((l.take (j + 1)).map (·.id)).Nodup := by
        rw [hndN, List.nodup_append]
        refine ⟨hnd, by simp, fun a ha b hb => ?_⟩
        rw [List.mem_singleton] at hb
        subst hb
        exact fun q => hin (q ▸ ha)
      cases f1 : y.kind == 7
      · have hk7' : ∀ e ∈ l.take (j + 1), e.kind ≠ 7 := fun e he => by
          rcases hmem e he with he | rfl
          · exact hk7 e he
          · simpa using f1
        simp only [go_sem, t1, t10, hee, hx0.rows, hrow, hkl, List.length_map, Int.toNat_natCast, Int.natCast_nonneg, f1, bq_t]
        exact ⟨l.length - (j + 1), by omega, j + 1, by omega, hnd2, hk7', t2, t3, t4, t9, t_succ (by omega) rfl, rfl⟩
      · simp only [go_sem, t1, t9, t10, hee, hx0.rows, hrow, hkl, List.length_map, Int.toNat_natCast, Int.natCast_nonneg, f1, bq_t]
        rw [hh0]
        (first | refine endA_pure0 ?_ | refine endA_pure ?_ (by rfl)) <;> (simp only [go_sem] <;> try rfl)
  · have hge := dnlt e
    have hn2 : n = l.length := by omega
    subst hn2
    rw [List.take_length] at hnd hk7
    simp only [go_sem, t1, t2, t3, t4, h30, k1.w.one, k1.e.one, k1.c.one, k1.g.one, k1.r.one, k1.t.one]
    refine call_by (c21 _ s a k1 f x l w hx0 (by omega)) ?_
    rintro _ h4 ⟨L1, y1, z1, rfl, m1, rfl, ny1, nz1⟩
    obtain ⟨b, hb⟩ : ∃ b, b = (streamP s l w).1 := ⟨_, rfl⟩
    rw [← hb] at ny1
    have hbl : b.length < 1048576 := by rw [hb]; exact stream_len (by omega)
    obtain ⟨h5, hh5⟩ : ∃ h5, h5 = h' ++ L1 := ⟨_, rfl⟩
    have hx5 : SlOf h5 x 11 (l.map evC) := by rw [hh5]; exact hx0.app _
    have hy5 : SlOf h5 y1 5 (b.map segC) := by rw [hh5]; exact ny1 _ rfl
    have k5 : SIn h5 s a := by rw [hh5]; exact k1.app _
    have h530 : h5[h.length]? = some (.box 30 (setupC s a)) := by rw [hh5]; exact get_app_old h30
    have hp5 : Pre h h5 := ⟨.box 30 (setupC s a) :: L1, by rw [hh5, hh0]; simp, noRes_cons rfl m1⟩
    simp only [go_sem, t1, t2, t3, t4, t9]
    rw [← hh5]
    refine wp_loop_a (by decide) (fun m T h2 => ∃ i : Nat, i ≤ b.length ∧ Pre h5 h2 ∧ OwnS h5 h2 24 2 (T 14) ((goalsL s l wk (b.take i)).map rrow) ∧ T 1 = x ∧ T 2 = i64 w ∧ T 3 = i64 wk ∧ T 4 = .ptr h.length 0 ∧ T 9 = bl true ∧ T 12 = y1 ∧ T 15 = i64 i ∧ m = b.length - i) b.length
      ⟨0, by omega, Pre.refl, .inl ⟨by simp only [go_sem], rfl⟩, by simp only [go_sem, t1], by simp only [go_sem, t2], by simp only [go_sem, t3], by simp only [go_sem, t4], by simp only [go_sem, t9], by simp only [go_sem], by (simp only [go_sem] <;> rfl), rfl⟩ ?_
    clear t1 t2 t3 t4 t9 t10
    rintro m T h2 ⟨i, hi, hp, ho, t1, t2, t3, t4, t9, t12, t15, rfl⟩
    have hy2 := hp.sl hy5
    simp only [go_sem, t12, t15, hy2.rows, List.length_map]
    refine ways (fun e => ?_) (fun e => ?_)
    · have hlt := dlt e
      have hrowG : (b.map segC)[i]? = some (segC b[i]) := by rw [List.getElem?_map, List.getElem?_eq_getElem hlt]; rfl
      have hklG : (i : Int) < b.length := by omega
      have hst := goalsL_snoc (s := s) (l := l) (k := wk) hlt
      have hcap1 := goalsL_len (s := s) (l := l) (k := wk) (b.take i)
      have hcap2 : (b.take i).length * l.length ≤ 1048576 * 60 := Nat.mul_le_mul (by rw [List.length_take]; omega) hl
      obtain ⟨g, hg⟩ : ∃ g, g = b[i] := ⟨_, rfl⟩
      rw [← hg] at hrowG hst
      obtain ⟨G0, hG0⟩ : ∃ G0, G0 = goalsL s l wk (b.take i) := ⟨_, rfl⟩
      rw [← hG0] at ho hst hcap1
      simp only [go_sem]
      refine wp_loop_a (by decide) (fun m T h3 => ∃ j : Nat, j ≤ l.length ∧ (j = 0 ∨ partOf wk g = true) ∧ Pre h5 h3 ∧ OwnS h5 h3 24 2 (T 14) ((G0 ++ goalsE s (l.take j) g).map rrow) ∧ T 1 = x ∧ T 2 = i64 w ∧ T 3 = i64 wk ∧ T 4 = .ptr h.length 0 ∧ T 9 = bl true ∧ T 12 = y1 ∧ T 15 = i64 i ∧ T 16 = i64 j ∧ m = l.length - j) l.length
        ⟨0, by omega, .inl rfl, hp, by (simp only [go_sem]; simpa [goalsE] using ho), by simp only [go_sem, t1], by simp only [go_sem, t2], by simp only [go_sem, t3], by simp only [go_sem, t4], by simp only [go_sem, t9], by simp only [go_sem, t12], by simp only [go_sem, t15], by (simp only [go_sem] <;> rfl), rfl⟩ ?_
      clear t1 t2 t3 t4 t9 t12 t15 hp ho hy2
      rintro m T h3 ⟨j, hj, hj0, hp, ho, t1, t2, t3, t4, t9, t12, t15, t16, rfl⟩
      have hx3 := hp.sl hx5
      have hy3 := hp.sl hy5
      have k3 := hp.sin k5
      have heeG := hy3.at (i := i) (by simpa using hlt)
      have hg30 : h3[h.length]? = some (.box 30 (setupC s a)) := by
        obtain ⟨L, rfl, _⟩ := hp
        exact get_app_old h530
      have hpart : partOf wk g = (g.kind == 1 && weekI g.from_ == wk) := rfl
      have hcap3 := goalsE_len (s := s) (l := l.take j) (g := g)
      rw [List.length_take] at hcap3
      have hdone : ∀ {Z : AV}, OwnS h5 h3 24 2 Z ((G0 ++ goalsE s (l.take j) g).map rrow) → (partOf wk g = false ∨ j = l.length) → OwnS h5 h3 24 2 Z ((goalsL s l wk (b.take (i + 1))).map rrow) := fun {Z} hZ hq => by
        rw [hst]
        cases hpt : partOf wk g
        · have : j = 0 := hj0.resolve_right (by rw [hpt]; simp)
          subst this
          simpa [goalsE] using hZ
        · have : j = l.length := hq.resolve_left (by rw [hpt]; simp)
          rw [this, List.take_length] at hZ
          simpa using hZ
      by_cases hjl : j < l.length
      · have dj : decide ((j : Int) < l.length) = true := by simpa using hjl
        cases f1 : g.kind == 1
        · rw [f1] at hpart
          simp only [go_sem, t1, t12, t15, t16, hx3.rows, hy3.rows, List.length_map, bq_t, heeG, hrowG, hklG, Int.toNat_natCast, Int.natCast_nonneg, dj, f1]
          exact ⟨b.length - (i + 1), by omega, i + 1, by omega, hp, hdone ho (.inl (by rw [hpart]; rfl)), t2, t3, t4, t9, t_succ (by omega) rfl, rfl⟩
        · simp only [go_sem, t1, t12, t15, t16, hx3.rows, hy3.rows, List.length_map, bq_t, heeG, hrowG, hklG, Int.toNat_natCast, Int.natCast_nonneg, t3, dj, f1]
          refine call_by (c17 _ _) ?_
          rintro _ h6 ⟨rfl, e6⟩
          rw [e6]
          clear e6 h6
          cases f2 : weekI g.from_ == wk
          · rw [f1, f2] at hpart
            simp only [go_sem, t1, t12, t15, t16, hx3.rows, hy3.rows, List.length_map, bq_t, heeG, hrowG, hklG, Int.toNat_natCast, Int.natCast_nonneg, t3, dj, f1, f2]
            exact ⟨b.length - (i + 1), by omega, i + 1, by omega, hp, hdone ho (.inl (by rw [hpart]; rfl)), t2, t4, t9, t_succ (by omega) rfl, rfl⟩
          · rw [f1, f2] at hpart
            have hee := hx3.at (i := j) (by simpa using hjl)
            have hrow : (l.map evC)[j]? = some (evC l[j]) := row_get (List.getElem?_eq_getElem hjl)
            have hkl : (j : Int) < l.length := by omega
            have hsn := goalsE_snoc (s := s) (g := g) hjl
            obtain ⟨y, hy⟩ : ∃ y, y = l[j] := ⟨_, rfl⟩
            rw [← hy] at hrow hsn
            simp only [go_sem, t1, t12, t15, t16, hx3.rows, hy3.rows, List.length_map, bq_t, heeG, hrowG, hklG, Int.toNat_natCast, Int.natCast_nonneg, t3, dj, f1, f2]
            refine wp_draw rfl [] 0 [(0, 0, []), (1, 0, []), (5, 0, []), (6, 0, []), (2, 0, []), (3, 0, []), (4, 0, []), (7, 0, []), (8, 0, []), (9, 0, []), (10, 0, [])] rfl (by decide) (by decide) ?_
            have hM30 : ∀ M, (h3 ++ M)[h.length]? = some (.box 30 (setupC s a)) := fun M => get_app_old hg30
            have kM : ∀ M, SIn (h3 ++ M) s a := fun M => k3.app M
            cases f3 : y.id == g.id
            · rw [f3] at hsn
              simp only [go_sem, t1, t12, t15, t16, hx3.rows, hy3.rows, List.length_map, bq_t, heeG, hrowG, hklG, Int.toNat_natCast, Int.natCast_nonneg, hee, hrow, hkl, f3]
              exact ⟨l.length - (j + 1), by omega, j + 1, by omega, .inr (by rw [hpart]; rfl), hp, by rw [hsn]; simpa using ho, t2, t3, t4, t9, t_succ (by omega) rfl, rfl⟩
            · rw [f3] at hsn
              simp only [go_sem, t1, t12, t15, t16, hx3.rows, hy3.rows, List.length_map, bq_t, heeG, hrowG, hklG, Int.toNat_natCast, Int.natCast_nonneg, hee, hrow, hkl, f3]
              have hrM : ∀ M, rowsOf (h3 ++ M) x = some (l.map evC) := fun M => rowsOf_app _ hx3.rows
              have heM : ∀ M, eOf (h3 ++ M) x = some 11 := fun M => eOf_app _ hee
              refine wp_draw rfl [.res] 1 [(1, 0, []), (2, 0, []), (0, 0, []), (3, 0, []), (4, 0, []), (5, 0, []), (6, 0, []), (7, 0, []), (8, 0, []), (9, 0, []), (10, 0, []), (11, 0, [])] rfl (by decide) (by decide) ?_
              simp only [go_sem, t1, t12, t15, t16, hrM, heM, hx3.rows, hy3.rows, List.length_map, bq_t, heeG, hrowG, hklG, Int.toNat_natCast, Int.natCast_nonneg, t4, hM30, hee, hrow, hkl, f3, (kM _).w.one, (kM _).e.one, (kM _).c.one, (kM _).g.one, (kM _).r.one, (kM _).t.one]
              refine call_by (c22 _ s a (kM _) f y) ?_
              rintro _ h6 ⟨rfl, e6⟩
              rw [e6]
              clear e6 h6
              have hA : List.length (rrow (goalP s y).1) = 2 := rfl
              have hcap : (G0.length + (goalsE s (l.take j) g).length + 1) * 17 ≤ 140737488355328 := by omega
              rcases ho with ⟨t14, hnil⟩ | ⟨id, st, u1, t14, u3⟩
              · simp only [go_sem, t1, t12, t14, t15, t16, hrM, heM, hx3.rows, hy3.rows, List.length_map, bq_t, heeG, hrowG, hklG, Int.toNat_natCast, Int.natCast_nonneg, t4, hM30, hee, hrow, hkl, f3, (kM _).w.one, (kM _).e.one, (kM _).c.one, (kM _).g.one, (kM _).r.one, (kM _).t.one]
                refine ⟨l.length - (j + 1), by omega, j + 1, by omega, .inr (by rw [hpart]; rfl), hp.app (noRes_cons rfl (noRes_cons rfl (noRes1 rfl))), .inr ⟨_, _, by have := hp.len; omega, rfl, ?_⟩, t2, t3, t9, t_succ (by omega) rfl, rfl⟩
                rw [hsn, ← List.append_assoc, List.map_append, hnil, get_new rfl]
                rfl
              · have hg : ∀ M, (h3 ++ M)[id]? = some (.row 24 2 ((G0 ++ goalsE s (l.take j) g).map rrow) st) := fun M => get_app_old u3
                simp only [go_sem, t1, t12, t14, t15, t16, hg, hcap, hrM, heM, hx3.rows, hy3.rows, List.length_map, bq_t, heeG, hrowG, hklG, Int.toNat_natCast, Int.natCast_nonneg, t4, hM30, hee, hrow, hkl, f3, (kM _).w.one, (kM _).e.one, (kM _).c.one, (kM _).g.one, (kM _).r.one, (kM _).t.one]
                refine ⟨l.length - (j + 1), by omega, j + 1, by omega, .inr (by rw [hpart]; rfl), (hp.app (noRes_cons rfl (noRes1 rfl))).set u1 rfl, .inr ⟨id, st + 1, u1, rfl, ?_⟩, t2, t3, t9, t_succ (by omega) rfl, rfl⟩
                rw [hsn, if_pos rfl, ← List.append_assoc, List.map_append (l₂ := [(goalP s y).1])]
                exact get_set_same (hg _)
      · have dj : decide ((j : Int) < l.length) = false := by simp; omega
        simp only [go_sem, t1, t12, t15, t16, hx3.rows, hy3.rows, List.length_map, bq_t, heeG, hrowG, hklG, Int.toNat_natCast, Int.natCast_nonneg, dj]
        exact ⟨b.length - (i + 1), by omega, i + 1, by omega, hp, hdone ho (.inr (by omega)), t2, t3, t4, t9, t_succ (by omega) rfl, rfl⟩
    · have hge := dnlt e
      have hi2 : i = b.length := by omega
      subst hi2
      rw [List.take_length] at ho
      have hg30 : h2[h.length]? = some (.box 30 (setupC s a)) := by
        obtain ⟨L, rfl, _⟩ := hp
        exact get_app_old h530
      have hx2 := hp.sl hx5
      have k2 := hp.sin k5
      have kM : ∀ M, SIn (h2 ++ M) s a := fun M => k2.app M
      have hG := perf_goals (l := l) (w := w) (k := wk) q2 hnd hk7 (by rw [← hb]; exact hbl)
      rw [← hb] at hG
      obtain ⟨G, hGe⟩ : ∃ G, G = goalsL s l wk b := ⟨_, rfl⟩
      have hGf : ∀ p ∈ G, FitR p := fun p hp => by
        rw [hGe] at hp
        obtain ⟨g, _, hg⟩ := List.mem_flatMap.1 hp
        obtain ⟨e, _, rfl⟩ := List.mem_map.1 hg
        exact goal_fit s e
      have hGl : G.length ≤ 1048576 * 60 := by
        have := goalsL_len (s := s) (l := l) (k := wk) b
        have : b.length * l.length ≤ 1048576 * 60 := Nat.mul_le_mul (by omega) hl
        rw [hGe]; omega
      rw [← hGe] at ho hG
      simp only [go_sem, t1, t2, t3, t4, hg30, k2.w.one, k2.e.one, k2.c.one, k2.g.one, k2.r.one, k2.t.one]
      refine call_by (c15 _ s a k2 f x l w wk hx2 (by omega)) ?_
      rintro _ h6 ⟨rfl, e6⟩
      rw [e6]
      clear e6 h6
      obtain ⟨pv, hpv⟩ : ∃ pv, pv = perfP s l w wk := ⟨_, rfl⟩
      rw [← hpv] at hG
      rw [← hpv]
      have hpl := perf_lo (w := w) (k := wk) (l := l) q2 (by omega)
      rw [← hpv] at hpl
      simp only [go_sem, t9]
      refine call_by (c23 _ (T 14) G hGf (by omega) (ho.app _).rows) ?_
      rintro _ h6 ⟨rfl, e6⟩
      rw [e6]
      clear e6 h6
      have hph := hp5.trans hp
      obtain ⟨L, hL, _⟩ := hph
      cases q5 : pv.err == 0
      · have q5' : (pv.err != 0) = true := by simpa using q5
        obtain ⟨G1, G2⟩ := hG.1 (by simpa using q5)
        simp only [go_sem, t9, q5', bq_t, G1, G2]
        rw [hL]
        simp only [List.append_assoc]
        (first | refine endA_pure0 ?_ | refine endA_pure ?_ (by rfl)) <;> (simp only [go_sem] <;> try rfl)
      have q5' : (pv.err != 0) = false := by simpa using q5
      obtain ⟨G1, G2, G3⟩ := hG.2 (by simpa using q5)
      rw [G1]
      have hmx : (if (1 : Int) > pv.eligible then 1 else pv.eligible) = max pv.eligible 1 := by
        split <;> omega
      have hel : Fit (max pv.eligible 1) ∧ -2147483647 ≤ max pv.eligible 1 ∧ max pv.eligible 1 ≤ 2147483647 := by
        unfold Fit; omega
      simp only [go_sem, t9, q5', bq_t, hmx]
      refine call_by (c18 (max pv.eligible 1) 1 hel.1 (by unfold Fit; omega) _) ?_
      rintro _ h6 ⟨rfl, e6⟩
      rw [e6, make_one hel.2]
      clear e6 h6
      simp only [go_sem, t9, q5', bq_t]
      refine call_by (c24 pv.perf (max pv.eligible 1, 1) (lo_fit (hpl (by simpa using q5)).2) ⟨hel.1, by simp [Fit]⟩ _) ?_
      rintro _ h6 ⟨rfl, e6⟩
      rw [e6]
      clear e6 h6
      rcases G3 with ⟨n1, n2⟩ | ⟨n1, n2⟩
      · have hm1 : max pv.eligible 1 = 1 := by omega
        have hm2 : mulR (0, 1) (1, 1) = ((0, 1), 0) := rfl
        rw [hm1, n2, show twoR mulV (0, 1) (1, 1) = ((0, 1), 0) from hm2]
        simp only [go_sem, t9, q5', bq_t, n1, n2, beq_self_eq_true]
        rw [hL]
        try simp only [List.append_assoc]
        (first | refine endA_pure0 ?_ | refine endA_pure ?_ (by rfl)) <;> (simp only [go_sem] <;> try rfl)
      · have hm1 : max pv.eligible 1 = pv.eligible := by omega
        have n3 : (pv.eligible == 0) = false := by simp; omega
        have n4 : decide (pv.eligible > 0) = true := by simp; omega
        rw [hm1, show twoR mulV pv.perf (pv.eligible, 1) = (pv.earned, 0) from n2]
        simp only [go_sem, t9, q5', bq_t, n3, n4, beq_self_eq_true]
        rw [hL]
        try simp only [List.append_assoc]
        (first | refine endA_pure0 ?_ | refine endA_pure ?_ (by rfl)) <;> (simp only [go_sem] <;> try rfl)
end Go.Proofs.Ytpdghiplnlhnfaa.Ax

namespace Go.Proofs.Ytpdghiplnlhnfaa.perfGoals
set_option linter.unusedSimpArgs false
set_option linter.unusedVariables false
open Go.ChangeShapes Go.WideShapes Go.ChangeAt Go.RowKit
open Go.ChangeMaps (open_string shut_string)
set_option linter.unusedVariables false

theorem own : ownKnob Try.prog.godebug = none := by kernel_rfl
theorem laidOut : laidOutB Try.prog = true := by kernel_rfl

/-- A slice of integers that came in. -/
def IsRow (k : IntKind) (w : World) (a : Option Addr) (len cap : Nat) (zs : List Int) : Prop :=
  (a = none ∧ len = 0 ∧ cap = 0 ∧ zs = []) ∨
  ∃ x, a = some x ∧ len ≤ cap ∧ cap ≤ maxLen ∧ zs.length = cap ∧ (∀ i, i < zs.length → w.cell? (x.add i) = some (.int k (zs.getD i 0))) ∧ ∀ n ∈ zs, (Lit.int k n).wf = true

/-! ### The walk. -/
theorem walk (x0 : Value) (x1 : Value) (a2 : Int) (a3 : Int) (w : World) (w0 : Ax.InSet w x0) (w1 : Ax.InEvs w x1) (w2 : (Lit.int .i64 a2).wf = true) (w3 : (Lit.int .i64 a3).wf = true) :
    Calls Try.prog 5 #[x0, x1, .int .i64 a2, .int .i64 a3] w fun e w' => e = .returned (.bool true) ∧ Below w.heap.size w w' := by
  obtain ⟨s, a, ha, ks, fs⟩ := w0
  obtain ⟨x, l, hx, sl⟩ := w1
  exact Ax.run_law (Ax.c5 [] s a ks fs x l sl a2 a3) ⟨_, _, rfl, ha, _, _, rfl, hx, _, _, rfl, rfl, _, _, rfl, rfl, rfl⟩

/-! ### The row's step. -/
set_option maxRecDepth 100000 in
theorem lifted (os : Os) (started : os.Started) (H : Type) (enc : TypeId × Value → H) :
    ReturnsInHanded {} Try.checked os 5 .any (Rows.perfGoalsSpec.pre6 enc Try.prog Try.f5 Rows.perfGoalsRow.domain false) (Rows.perfGoalsSpec.post enc Try.prog Try.f5 false true false false) := by
  refine returnsInHanded_of_change (C := Try.checked) own started (by kernel_rfl) Try.func5
    (ChangeSpec.witness6 (enc := enc) (C := Try.checked) false ⟨#[], #[.agg #[.int .i64 0, .slice none 0 0, .int .i64 0, .int .i64 0, .slice none 0 0, .slice none 0 0, .slice none 0 0, .int .i64 0, .int .i64 0, .int .i64 0, .int .i64 0, .int .i64 0, .int .i64 0, .int .i64 0, .int .i64 0, .int .i64 0, .int .i64 0, .int .i64 0, .slice none 0 0, .int .i64 0, .int .i64 0, .int .i64 0, .slice none 0 0], .slice none 0 0, .int .i64 0, .int .i64 0], []⟩ 8 (by kernel_rfl) (by kernel_rfl) (by kernel_rfl) (by kernel_rfl)) ?_
  intro W base args ds gs before hval0 hW hcnd _
  have hval : ∀ (j : Nat) t v, Try.f5.params[j]? = some t → args[j]? = some v → Value.okWide Try.prog W .any base t v := hval0
  have hW' := hW
  obtain ⟨p, q, hA0, hV, rfl, hfz, hnd⟩ := hW
  have hA : DataW.TrodAll enc Try.prog W 0 (fun _ => true) true Try.f5.params.toList args.toList ds p := hA0
  rw [Try.params5] at hA hval
  obtain ⟨v0, vs0, d0, ds0, p0, q0, hargs, rfl, rfl, h0, r0⟩ := trodAll_cons hA
  obtain ⟨v1, vs1, d1, ds1, p1, q1, rfl, rfl, rfl, h1, r1⟩ := trodAll_cons r0
  obtain ⟨v2, vs2, d2, ds2, p2, q2, rfl, rfl, rfl, h2, r2⟩ := trodAll_cons r1
  obtain ⟨v3, vs3, d3, ds3, p3, q3, rfl, rfl, rfl, h3, r3⟩ := trodAll_cons r2
  obtain ⟨rfl, rfl, rfl⟩ := trodAll_nil r3
  obtain rfl : args = #[v0, v1, v2, v3] := by cases args; simp_all
  obtain ⟨rfl, rfl⟩ := trodVars_none hV
  have k0 := h0
  have lt0 : ∀ x ∈ p0, x.block < W.heap.size := by obtain ⟨m, hm⟩ := k0; exact DataW.trod_lt m _ _ _ hm
  have w0 := Ax.setup_in (hval 0 30 v0 rfl rfl) h0
  have k1 := h1
  have lt1 : ∀ x ∈ p1, x.block < W.heap.size := by obtain ⟨m, hm⟩ := k1; exact DataW.trod_lt m _ _ _ hm
  obtain ⟨sa1, sl1, sc1, rfl⟩ := okWide_slice Try.underlying31 (hval 1 31 v1 rfl rfl)
  have w1 := (by obtain ⟨fuel, hf⟩ := h1; exact Ax.evs_in (v := .slice sa1 sl1 sc1) (by simpa [Value.cells] using hf) : Ax.InEvs W (.slice sa1 sl1 sc1))
  obtain ⟨a2, rfl, rfl, rfl, w2⟩ := open_int Try.underlying3 (hval 2 3 v2 rfl rfl) h2
  obtain ⟨a3, rfl, rfl, rfl, w3⟩ := open_int Try.underlying3 (hval 3 3 v3 rfl rfl) h3
  clear hA0 hval0
  refine (walk v0 (.slice sa1 sl1 sc1) a2 a3 W w0 w1 w2 w3).mono fun e W' ⟨he, bel⟩ => ?_
  subst he
  exact ⟨_, rfl, _, _, _, [], _, [], hW', trodAll_mk1 (shut_bool Try.underlying4 _), (trodAll_cons_mk (Below.trod laidOut (by kernel_rfl) (of_decide_eq_true (by kernel_rfl)) k0 bel lt0) (trodAll_cons_mk (Below.trod laidOut (by kernel_rfl) (of_decide_eq_true (by kernel_rfl)) k1 bel lt1) (trodAll_cons_mk (shut_int Try.underlying3 w2) (trodAll_cons_mk (shut_int Try.underlying3 w3) trodAll_mk0)))), rfl, bel.frame _, fun h => by cases h⟩

theorem over : Rows.perfGoalsRow.holds Try.pinned (OpenSpec.ofChange Rows.perfGoalsSpec) :=
  OpenClaim.holds_of_wide 5 Try.f5 rfl rfl rfl rfl rfl rfl rfl ⟨rfl, rfl, rfl, rfl, rfl⟩ rfl rfl rfl rfl rfl (by kernel_rfl) Try.func5 (by kernel_rfl)
    (of_decide_eq_true (by kernel_rfl)) (by unfold Func.isWrapper; first | (rw [if_pos (by decide +kernel)]; kernel_rfl) | (rw [if_neg (by decide +kernel)]; exact ⟨rfl, rfl⟩))
    (fun os started H enc _ => lifted os started H enc)

/-- The statement. -/
theorem proved : Rows.PerfGoalsSaid := over
#print axioms proved
end Go.Proofs.Ytpdghiplnlhnfaa.perfGoals
