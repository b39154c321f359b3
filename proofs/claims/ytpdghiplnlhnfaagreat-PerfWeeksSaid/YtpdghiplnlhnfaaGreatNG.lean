/-
  Joined: Perf3. Nothing is proved here of a statement.
-/
import Derived.Test.YtpdghiplnlhnfaaGreatNF
namespace Go.Proofs.YtpdghiplnlhnfaaGreat.Ax
set_option linter.unusedSimpArgs false
set_option linter.unusedVariables false
open Go Go.Proofs
set_option maxRecDepth 100000
set_option linter.unusedSimpArgs false
set_option linter.unusedVariables false
abbrev perfV (v : PerfV) : AV := .tup [rat v.earned, i64 v.eligible, rat v.perf, i64 v.err]
abbrev sumC (z : Rat2 × Int) : List AV := [i64 z.1.1, i64 z.1.2, i64 z.2]
theorem takeS_C (z v : Rat2 × Int) : (if z.2 = 0 then [i64 v.1.1, i64 v.1.2, i64 v.2] else [i64 z.1.1, i64 z.1.2, i64 z.2]) = sumC (takeS z v) := by
  unfold takeS
  split <;> rfl
theorem c44s (h : List Ob) (j : Nat) (z v : Rat2 × Int) (hj : h[j]? = some (.box 65 (sumC z))) :
    ACalls Tryz.prog 33 [.ptr j 0, rat v.1, i64 v.2] h fun r h' => r = .tup [] ∧ h' = h.set j (.box 65 (sumC (takeS z v))) :=
  (c44 h j z.1.1 z.1.2 z.2 v.1 v.2 hj).mono fun r h' ⟨e1, e2⟩ => ⟨e1, by rw [e2, takeS_C]⟩
theorem task_at {l : List Ev} {g : Seg} {A R : List Ev} {x : Ev} (hl : l = A ++ x :: R) (hA : ∀ e ∈ A, isTask g.id e = false) (hx : isTask g.id x = true) : taskOf l g = x := by
  unfold taskOf
  rw [hl, List.find?_append, List.find?_eq_none.2 (fun e he => by rw [hA e he]; simp)]
  simp [hx]
theorem stream_task {s : Setup} {l : List Ev} {w : Int} (hs : setupOk s = true) {g : Seg} (hg : g ∈ (streamP s l w).1) (hk : g.kind = 1) : ∃ e ∈ l, isTask g.id e = true := by
  obtain ⟨e, ⟨q1, q2, q3⟩, q4⟩ := (stream_rise (l := l) (w := w) hs).2 g hg
  refine ⟨e, q1, ?_⟩
  have hke : e.kind = 3 := by
    have := q4.2.1
    rw [hk] at this
    unfold kindI at this
    split at this
    · assumption
    · split at this
      · cases this
      · split at this <;> cases this
  simp [isTask, hke, q4.1]
theorem ownP_len {s : Setup} {w : Int} {l : List Ev} : (ownP s w l).length ≤ l.length := by
  have := List.length_filter_le (fun e => !notOwn s w e) (stabE l)
  rw [stabE_len] at this
  exact this
theorem stream_len3 {s : Setup} {l : List Ev} {w : Int} : (streamP s l w).1.length ≤ 3 * l.length + 1 := by
  have hlen := stabE_len l
  have hsz : szT (goP s w (stabE l)) ≤ szT ⟨none, [], []⟩ + 3 * (stabE l).length := szT_go (stabE l)
  have hsz0 : szT ⟨none, [], []⟩ = 0 := rfl
  have h2 := szT_late (s := s) (t := goP s w (stabE l)) (at_ := 32054400)
  unfold streamP
  split
  · simp only [szT] at h2 hsz hsz0 ⊢
    omega
  · simp
theorem goalP_fit (s : Setup) (e : Ev) : FitR (goalP s e).1 := by
  have hst : ∀ far, FitR (stepsP s e far).1 := fun far => by
    unfold stepsP
    simp only
    exact fit_then (f := mulR) (fun a b => fit_two mulV a b) _ _ _
  unfold goalP
  split
  · split
    · exact fit_zero
    · split
      · exact hst _
      · exact fit_zero
  · exact fit_zero
def finP (all2 lost : Rat2 × Int) (G : List Rat2) (n0 : Int) : PerfV :=
  let all3 := if all2.2 = 0 then takeS all2 (subR (sumR G).1 lost.1) else all2
  let all4 := if all3.2 = 0 ∧ all3.1.1 < 0 then ((0, 1), all3.2) else all3
  let done := if n0 > 0 ∧ all4.2 = 0 then takeS (takeS ((0, 1), all4.2) (make n0 1)) (divR all4.1 (make n0 1).1) else ((0, 1), all4.2)
  if done.2 = 0 then ⟨all4.1, n0, done.1, 0⟩ else ⟨(0, 0), n0, (0, 0), done.2⟩
/-- What stands at the end, by what all are, so far. -/
def endP (all4 : Rat2 × Int) (n0 : Int) : PerfV :=
  if (if n0 > 0 ∧ all4.2 = 0 then takeS (takeS ((0, 1), all4.2) (make n0 1)) (divR all4.1 (make n0 1).1) else ((0, 1), all4.2)).2 = 0
  then ⟨all4.1, n0, (if n0 > 0 ∧ all4.2 = 0 then takeS (takeS ((0, 1), all4.2) (make n0 1)) (divR all4.1 (make n0 1).1) else ((0, 1), all4.2)).1, 0⟩
  else ⟨(0, 0), n0, (0, 0), (if n0 > 0 ∧ all4.2 = 0 then takeS (takeS ((0, 1), all4.2) (make n0 1)) (divR all4.1 (make n0 1).1) else ((0, 1), all4.2)).2⟩
theorem finP_eq (all2 lost : Rat2 × Int) (G : List Rat2) (n0 : Int) : finP all2 lost G n0 = endP (if (if all2.2 = 0 then takeS all2 (subR (sumR G).1 lost.1) else all2).2 = 0 ∧ (if all2.2 = 0 then takeS all2 (subR (sumR G).1 lost.1) else all2).1.1 < 0 then ((0, 1), (if all2.2 = 0 then takeS all2 (subR (sumR G).1 lost.1) else all2).2) else (if all2.2 = 0 then takeS all2 (subR (sumR G).1 lost.1) else all2)) n0 := rfl
theorem fit_el : ∀ (l : List Seg) (z : Int), Fit z → Fit (l.foldl (fun n g => wr (n + wr (g.to_ - g.from_))) z)
  | [], _, h => h
  | _ :: l, _, _ => fit_el l _ (fit_wr _)
theorem swap3 {h R : List Ob} {b o1 o2 p1 p2 : Ob} {i : Nat} (hi : h.length + 3 ≤ i) : (h ++ b :: o1 :: o2 :: R)[i]? = (h ++ b :: p1 :: p2 :: R)[i]? := by
  rw [List.getElem?_append_right (by omega), List.getElem?_append_right (by omega)]
  obtain ⟨r, hr⟩ : ∃ r, i - h.length = r + 3 := ⟨i - h.length - 3, by omega⟩
  rw [hr]
  rfl
set_option maxHeartbeats 8000000 in
theorem c15 (h : List Ob) (s : Setup) (a : SA) (k : SIn h s a) (f : SFit s) (x : AV) (l : List Ev) (w wk : Int) (hx : SlOf h x 11 (l.map evC)) (hl : l.length < 262144) :
    ACalls Tryz.prog 8 [setupV s a, x, i64 w, i64 wk] h fun r h' => r = perfV (perfP s l w wk) ∧ h' = h := by
  refine acalls_wp Tryz.f8 [.cell 8 24, .tmp 9, .cell 10 24, .tmp 11] 178 rfl rfl rfl rfl rfl rfl (by decide) (⟨_, _, ⟨rfl, rfl⟩, .refl⟩) fun B => ?_
  simp only [go_sem, k.w.one, k.e.one, k.c.one, k.g.one, k.r.one, k.t.one]
  refine call_by (c16 _ s a (k.app _) f) ?_
  rintro _ h1 ⟨rfl, e2⟩
  subst e2
  cases q1 : setupOk s
  · have hp : perfP s l w wk = ⟨(0, 1), 0, (0, 1), 0⟩ := by simp [perfP, q1]
    rw [hp]
    simp only [go_sem, q1, Bool.not_false]
    refine call_by (c40 _) ?_
    rintro _ h1 ⟨rfl, e2⟩
    subst e2
    simp only [go_sem]
    refine call_by (c40 _) ?_
    rintro _ h1 ⟨rfl, e2⟩
    subst e2
    simp only [go_sem]
    (first | refine endA_pure0 ?_ | refine endA_pure ?_ (by rfl)) <;> (simp only [go_sem] <;> try rfl)
  have hp : perfP s l w wk = weekP s (ownP s w l) (streamP s (ownP s w l) w).1 wk := by simp [perfP, q1]
  obtain ⟨ev, hev⟩ : ∃ ev, ev = ownP s w l := ⟨_, rfl⟩
  obtain ⟨sg, hsg⟩ : ∃ sg, sg = (streamP s ev w).1 := ⟨_, rfl⟩
  rw [← hev, ← hsg] at hp
  have hevl : ev.length < 262144 := by rw [hev]; exact Nat.lt_of_le_of_lt ownP_len hl
  have hsgl : sg.length < 1048576 := by have := stream_len3 (s := s) (l := ev) (w := w); rw [hsg]; omega
  have kk : ∀ M, SIn (h ++ M) s a := fun M => k.app M
  simp only [go_sem, q1, Bool.not_true, (kk _).w.one, (kk _).e.one, (kk _).c.one, (kk _).g.one, (kk _).r.one, (kk _).t.one]
  refine call_by (c41 _ s a (kk _) x l w (hx.app _) (by omega)) ?_
  rintro xe h1 ⟨L1, rfl, n1, ne⟩
  rw [← hev] at ne
  simp only [go_sem, (kk _).w.one, (kk _).e.one, (kk _).c.one, (kk _).g.one, (kk _).r.one, (kk _).t.one]
  have he1 := ne _ rfl
  simp only [List.append_assoc, List.cons_append, List.nil_append] at he1
  refine call_by (c21 _ s a (kk _) f xe ev w he1 (by omega)) ?_
  rintro _ h1 ⟨L2, y1, z1, rfl, n2, rfl, ny, nz⟩
  rw [← hsg] at ny
  simp only [go_sem]
  refine call_by (c40 _) ?_
  rintro _ h1 ⟨rfl, e2⟩
  subst e2
  obtain ⟨h5, hh5⟩ : ∃ h5, h5 = h ++ .box 30 (setupC s a) :: .box 24 [i64 0, i64 0] :: .box 24 [i64 0, i64 0] :: (L1 ++ L2) := ⟨_, rfl⟩
  have hp5 : Pre h h5 := ⟨_, hh5, noRes_cons rfl (noRes_cons rfl (noRes_cons rfl (n1.app n2)))⟩
  have b0 : h5[h.length]? = some (.box 30 (setupC s a)) := by rw [hh5]; exact get_new0 rfl
  have b1 : h5[h.length + 1]? = some (.box 24 [i64 0, i64 0]) := by rw [hh5]; exact get_new (k := 1) rfl
  have b2 : h5[h.length + 2]? = some (.box 24 [i64 0, i64 0]) := by rw [hh5]; exact get_new (k := 2) rfl
  have k5 : SIn h5 s a := by rw [hh5]; exact k.app _
  have he5 : SlOf h5 xe 11 (ev.map evC) := by
    have := he1.app L2
    rw [hh5]
    simpa only [List.append_assoc, List.cons_append, List.nil_append] using this
  have hy5 : SlOf h5 y1 5 (sg.map segC) := by
    have := ny _ rfl
    rw [hh5]
    simpa only [List.append_assoc, List.cons_append, List.nil_append] using this
  have hlen5 : h.length + 3 ≤ h5.length := by rw [hh5]; simp
  have hcat : h ++ .box 30 (setupC s a) :: .box 24 [AV.v (Value.int IntKind.i64 0), AV.v (Value.int IntKind.i64 0)] :: .box 24 [AV.v (Value.int IntKind.i64 0), AV.v (Value.int IntKind.i64 0)] :: (L1 ++ (L2 ++ [Ob.box 65 [i64 0, i64 1, AV.v (Value.int IntKind.i64 0)]])) = h5 ++ [Ob.box 65 (sumC ((0, 1), 0))] := by rw [hh5]; simp
  have hl5 : h.length + (L1.length + L2.length + 1 + 1 + 1) = h5.length := by rw [hh5]; simp
  have hy51 := (hy5.app [Ob.box 65 (sumC ((0, 1), 0))]).rows
  rw [← hcat] at hy51
  simp only [go_sem, hy51, List.length_map]
  rw [hcat]
  obtain ⟨gl, hgl⟩ : ∃ gl : List Seg → List Rat2, gl = fun q => (q.filter (partOf wk)).map fun g => (goalP s (taskOf ev g)).1 := ⟨_, rfl⟩
  obtain ⟨al, hal⟩ : ∃ al : List Seg → Rat2 × Int, al = fun q => (q.filter (partOf wk)).foldl (fun z g => takeS z ((0, 1), (goalP s (taskOf ev g)).2)) ((0, 1), 0) := ⟨_, rfl⟩
  obtain ⟨el, hel⟩ : ∃ el : List Seg → Int, el = fun q => (q.filter (partOf wk)).foldl (fun n g => wr (n + wr (g.to_ - g.from_))) 0 := ⟨_, rfl⟩
  have gll : ∀ q, (gl q).length ≤ q.length := fun q => by
    rw [hgl]
    simp only [List.length_map]
    exact List.length_filter_le _ _
  refine wp_loop_a (by decide) (fun m T h' => ∃ j : Nat, j ≤ sg.length ∧ Pre h5 h' ∧ h'[h5.length]? = some (.box 65 (sumC (al (sg.take j)))) ∧ OwnS h5 h' 24 2 (T 16) ((gl (sg.take j)).map rrow) ∧ T 3 = i64 wk ∧ T 4 = .ptr h.length 0 ∧ T 8 = .ptr (h.length + 1) 0 ∧ T 9 = i64 (el (sg.take j)) ∧ T 10 = .ptr (h.length + 2) 0 ∧ T 12 = xe ∧ T 15 = .ptr h5.length 0 ∧ T 46 = y1 ∧ T 47 = i64 sg.length ∧ T 48 = i64 j ∧ m = sg.length - j) sg.length
    ⟨0, by omega, Pre.refl.app (noRes1 rfl), by rw [get_new0 rfl, hal]; rfl, .inl ⟨by simp only [go_sem], by rw [hgl]; rfl⟩, by simp only [go_sem], by simp only [go_sem], by simp only [go_sem], by (simp only [go_sem] <;> rw [hel] <;> rfl), by simp only [go_sem], by simp only [go_sem], by (simp only [go_sem] <;> rw [hh5] <;> simp), by simp only [go_sem], by simp only [go_sem], by (simp only [go_sem] <;> rfl), rfl⟩ ?_
  rintro m T h' ⟨j, hj, hpre, hbx, ho, t3, t4, t8, t9, t10, t12, t15, t46, t47, t48, rfl⟩
  simp only [go_sem, t47, t48]
  refine ways (fun e => ?_) (fun e => ?_)
  · have hlt := dlt e
    have hy' := hpre.sl hy5
    have he' := hpre.sl he5
    have k' := hpre.sin k5
    have hee := hy'.at (i := j) (by simpa using hlt)
    have hrow : (sg.map segC)[j]? = some (segC sg[j]) := by rw [List.getElem?_map, List.getElem?_eq_getElem hlt]; rfl
    have hkl : (j : Int) < sg.length := by omega
    have htk := List.take_append_getElem hlt
    have hmem : sg[j] ∈ sg := List.getElem_mem hlt
    obtain ⟨g, hg⟩ : ∃ g, g = sg[j] := ⟨_, rfl⟩
    rw [← hg] at hrow htk hmem
    have hA : List.length (segC g) = 5 := rfl
    have skip : partOf wk g = false → al (sg.take (j + 1)) = al (sg.take j) ∧ gl (sg.take (j + 1)) = gl (sg.take j) ∧ el (sg.take (j + 1)) = el (sg.take j) := fun q => by
      rw [← htk, hal, hgl, hel]
      simp [List.filter_append, q]
    cases q2 : g.kind != 1
    · cases q3 : weekI g.from_ != wk
      · have hk1 : g.kind = 1 := by simpa using q2
        have hw1 : weekI g.from_ = wk := by simpa using q3
        have hyes : partOf wk g = true := by simp [partOf, hk1, hw1]
        have step : al (sg.take (j + 1)) = takeS (al (sg.take j)) ((0, 1), (goalP s (taskOf ev g)).2) ∧ gl (sg.take (j + 1)) = gl (sg.take j) ++ [(goalP s (taskOf ev g)).1] ∧ el (sg.take (j + 1)) = wr (el (sg.take j) + wr (g.to_ - g.from_)) := by
          rw [← htk, hal, hgl, hel]
          simp [List.filter_append, hyes, List.foldl_append]
        have hex : ∃ e ∈ ev, isTask g.id e = true := stream_task (w := w) q1 (by rw [← hsg]; exact hmem) hk1
        rcases ix_cases (isTask g.id) ev with ⟨_, hno⟩ | ⟨A, tk, R, hAR, hix, htk1, htk2⟩
        · obtain ⟨e, he, hi⟩ := hex
          rw [hno e he] at hi; cases hi
        have htask := task_at hAR htk2 htk1
        have hAl : A.length < ev.length := by rw [hAR]; simp
        have hrowT : (ev.map evC)[A.length]? = some (evC tk) := row_get (by rw [hAR]; simp)
        have heeT : eOf h' xe = some 11 := he'.at (i := A.length) (by simpa using hAl)
        have hklT : (A.length : Int) < (ev.length : Int) := by omega
        have hb53 : ∀ M, (h' ++ (.box 55 (segC g) :: M))[h'.length]? = some (.box 55 (segC g)) := fun M => by rw [get_new0 rfl]; rfl
        simp only [go_sem, t3, t46, t48, hee, hy'.rows, hrow, hkl, List.length_map, Int.toNat_natCast, Int.natCast_nonneg, q2, q3, bq_t]
        refine call_by (c17 g.from_ _) ?_
        rintro _ h4 ⟨rfl, e4⟩
        subst e4
        simp only [go_sem, t3, t9, t12, t48, q3]
        refine call_by (c42 _ xe 31 [.ptr h'.length 0] (ev.map evC) (fun r => isTask g.id (rowEv r)) (by rw [List.length_map]; omega) (fun r hr => by obtain ⟨p, _, rfl⟩ := List.mem_map.1 hr; rfl) (he'.app _) (fun r hr M => by
          obtain ⟨p, _, rfl⟩ := List.mem_map.1 hr
          exact c43 _ h'.length p g (by rw [List.append_assoc]; exact hb53 _))) ?_
        rintro _ h4 ⟨rfl, e4⟩
        subst e4
        rw [hix]
        have hb30 : ∀ M, (h' ++ M)[h.length]? = some (.box 30 (setupC s a)) := fun M => by
          obtain ⟨L, rfl, _⟩ := hpre
          rw [List.append_assoc]; exact get_app_old b0
        have kM : ∀ M, SIn (h' ++ M) s a := fun M => k'.app M
        have eT : ∀ M, eOf (h' ++ M) xe = some 11 := fun M => (he'.app M).at (i := A.length) (by simpa using hAl)
        have rT : ∀ M, rowsOf (h' ++ M) xe = some (ev.map evC) := fun M => (he'.app M).rows
        have oM : ∀ M, OwnS h5 (h' ++ M) 24 2 (T 16) ((gl (sg.take j)).map rrow) := fun M => ho.app M
        have bxM : ∀ M, (h' ++ M)[h5.length]? = some (.box 65 (sumC (al (sg.take j)))) := fun M => get_app_old hbx
        obtain ⟨gp, hgp⟩ : ∃ gp, gp = goalP s tk := ⟨_, rfl⟩
        rw [htask, ← hgp] at step
        obtain ⟨s1, s2, s3⟩ := step
        have hcap : ((gl (sg.take j)).length + 1) * 17 ≤ 140737488355328 := by
          have := gll (sg.take j)
          rw [List.length_take] at this
          omega
        simp only [go_sem]
        refine wp_draw rfl [.res] 1 [(1, 0, []), (2, 0, []), (0, 0, []), (3, 0, []), (4, 0, []), (5, 0, []), (6, 0, []), (7, 0, []), (8, 0, []), (9, 0, []), (10, 0, []), (11, 0, [])] rfl (by decide) (by decide) ?_
        simp only [go_sem, t4, t12, hb30, eT, rT, hrowT, hklT, List.length_map, Int.toNat_natCast, Int.natCast_nonneg, (kM _).w.one, (kM _).e.one, (kM _).c.one, (kM _).g.one, (kM _).r.one, (kM _).t.one]
        refine call_by (c22 _ s a (kM _) f tk) ?_
        rintro _ h4 ⟨rfl, e4⟩
        subst e4
        rw [← hgp]
        rcases ho with ⟨t16, hnil⟩ | ⟨id, st, u1, t16, u3⟩
        · simp only [go_sem, t16, t4, t12, hb30, eT, rT, hrowT, hklT, List.length_map, Int.toNat_natCast, Int.natCast_nonneg]
          refine call_by (c40 _) ?_
          rintro _ h4 ⟨rfl, e4⟩
          subst e4
          simp only [go_sem, t15]
          refine call_by (c44s _ h5.length (al (sg.take j)) ((0, 1), gp.2) (bxM _)) ?_
          rintro _ h4 ⟨rfl, rfl⟩
          simp only [go_sem, t48]
          have hlt5 : h5.length < h'.length := (List.getElem?_eq_some_iff.1 hbx).1
          refine ⟨sg.length - (j + 1), by omega, j + 1, by omega, (hpre.app (noRes_cons rfl (noRes_cons rfl (noRes_cons rfl (noRes1 rfl))))).set (Nat.le_refl _) rfl, by rw [get_set_same (bxM _), s1], .inr ⟨h'.length + 3, 0, by omega, rfl, ?_⟩, t3, t4, t8, by rw [s3], t10, t12, t15, t46, t47, t_succ (by omega) rfl, rfl⟩
          rw [List.getElem?_set_ne (by omega), get_new (k := 3) rfl, s2, List.map_append, hnil]
          rfl
        · have hgM : ∀ M, (h' ++ M)[id]? = some (.row 24 2 ((gl (sg.take j)).map rrow) st) := fun M => get_app_old u3
          simp only [go_sem, t16, t4, t12, hgM, hcap, hb30, eT, rT, hrowT, hklT, List.length_map, Int.toNat_natCast, Int.natCast_nonneg]
          refine call_by (c40 _) ?_
          rintro _ h4 ⟨rfl, e4⟩
          subst e4
          have hne : id ≠ h5.length := fun q => by rw [q, hbx] at u3; cases u3
          have bxS : ∀ M o, ((h' ++ M).set id o)[h5.length]? = some (.box 65 (sumC (al (sg.take j)))) := fun M o => by rw [List.getElem?_set_ne hne]; exact bxM _
          simp only [go_sem, t15]
          refine call_by (c44s _ h5.length (al (sg.take j)) ((0, 1), gp.2) (bxS _ _)) ?_
          rintro _ h4 ⟨rfl, rfl⟩
          simp only [go_sem, t48]
          refine ⟨sg.length - (j + 1), by omega, j + 1, by omega, ((hpre.app (noRes_cons rfl (noRes_cons rfl (noRes1 rfl)))).set u1 rfl).set (Nat.le_refl _) rfl, by rw [get_set_same (bxS _ _), s1], .inr ⟨id, st + 1, u1, rfl, ?_⟩, t3, t4, t8, by rw [s3], t10, t12, t15, t46, t47, t_succ (by omega) rfl, rfl⟩
          rw [List.getElem?_set_ne (Ne.symm hne), get_set_same (hgM _), s2, List.map_append]
          rfl
      · simp only [go_sem, t3, t46, t48, hee, hy'.rows, hrow, hkl, List.length_map, Int.toNat_natCast, Int.natCast_nonneg, q2, q3, bq_t]
        refine call_by (c17 g.from_ _) ?_
        rintro _ h4 ⟨rfl, e4⟩
        subst e4
        simp only [go_sem, t3, t48, q3]
        have sk : partOf wk g = false := by
          unfold partOf
          have : (weekI g.from_ == wk) = false := by simpa using q3
          rw [this, Bool.and_false]
        exact ⟨sg.length - (j + 1), by omega, j + 1, by omega, hpre.app (noRes1 rfl), by rw [(skip sk).1]; exact get_app_old hbx, by rw [(skip sk).2.1]; exact ho.app _, t4, t8, by rw [(skip sk).2.2]; exact t9, t10, t12, t15, t46, t47, t_succ (by omega) rfl, rfl⟩
    · simp only [go_sem, t46, t48, hee, hy'.rows, hrow, hkl, List.length_map, Int.toNat_natCast, Int.natCast_nonneg, q2, bq_t]
      have sk : partOf wk g = false := by
        unfold partOf
        have : (g.kind == 1) = false := by simpa using q2
        rw [this, Bool.false_and]
      exact ⟨sg.length - (j + 1), by omega, j + 1, by omega, hpre.app (noRes1 rfl), by rw [(skip sk).1]; exact get_app_old hbx, by rw [(skip sk).2.1]; exact ho.app _, t3, t4, t8, by rw [(skip sk).2.2]; exact t9, t10, t12, t15, t47, t_succ (by omega) rfl, rfl⟩
  · have hge := dnlt e
    have hj2 : j = sg.length := by omega
    subst hj2
    rw [List.take_length] at hbx ho t9
    obtain ⟨z0, hz0⟩ : ∃ z0, z0 = al sg := ⟨_, rfl⟩
    obtain ⟨G, hG⟩ : ∃ G, G = gl sg := ⟨_, rfl⟩
    obtain ⟨n0, hn0⟩ : ∃ n0, n0 = el sg := ⟨_, rfl⟩
    rw [← hz0] at hbx
    rw [← hG] at ho
    rw [← hn0] at t9
    have hGf : ∀ p ∈ G, FitR p := fun p hp => by
      rw [hG, hgl] at hp
      obtain ⟨q, _, rfl⟩ := List.mem_map.1 hp
      exact goalP_fit _ _
    have hGl : G.length < 1099511627776 := by have := gll sg; rw [hG]; omega
    have hGo := ho.rows
    obtain ⟨xg, hxg⟩ : ∃ xg, xg = T 16 := ⟨_, rfl⟩
    rw [← hxg] at hGo ho
    have t16 : T 16 = xg := hxg.symm
    have hlt5 : h5.length < h'.length := (List.getElem?_eq_some_iff.1 hbx).1
    -- the sum of the goals
    simp only [go_sem, t16]
    refine call_by (c23 _ xg G hGf hGl hGo) ?_
    rintro _ h4 ⟨rfl, e4⟩
    subst e4
    simp only [go_sem, t15]
    refine call_by (c44s _ h5.length z0 (sumR G) hbx) ?_
    rintro _ h6 ⟨rfl, e6⟩
    obtain ⟨z1, hz1⟩ : ∃ z1, z1 = takeS z0 (sumR G) := ⟨_, rfl⟩
    rw [← hz1] at e6
    have p6 : Pre h5 h6 := by rw [e6]; exact hpre.set (Nat.le_refl _) rfl
    have l6 : h6.length = h4.length := by rw [e6]; simp
    have a6 : ∀ M, (h6 ++ M)[h5.length]? = some (.box 65 (sumC z1)) := fun M => get_app_old (by rw [e6]; exact get_set_same hbx)
    have o6 : OwnS h5 h6 24 2 xg (G.map rrow) := by rw [e6]; exact ho.set_box hbx _
    clear e6 hbx ho hGo
    simp only [go_sem]
    refine wp_draw rfl [.res] 1 [(1, 0, []), (2, 0, []), (0, 0, [2]), (3, 0, []), (4, 0, []), (5, 0, [])] rfl (by decide) (by decide) ?_
    simp only [go_sem, t15, a6]
    refine call_by (c40 _) ?_
    rintro _ h7 ⟨rfl, e7⟩
    subst e7
    simp only [go_sem, t15, a6]
    obtain ⟨h7, e7⟩ : ∃ h7, h7 = h6 ++ [Ob.box 65 [i64 0, i64 1, i64 z1.2]] := ⟨_, rfl⟩
    have p7 : Pre h5 h7 := by rw [e7]; exact p6.app (noRes1 rfl)
    have a7 : h7[h5.length]? = some (.box 65 (sumC z1)) := by rw [e7]; exact a6 _
    have d7 : h7[h6.length]? = some (.box 65 (sumC ((0, 1), z1.2))) := by rw [e7]; exact get_new0 rfl
    have o7 : OwnS h5 h7 24 2 xg (G.map rrow) := by rw [e7]; exact o6.app _
    have l76 : h5.length < h6.length := by omega
    rw [← e7]
    clear e7
    have b7 : ∀ M, (h7 ++ M)[h.length]? = some (.box 30 (setupC s a)) := fun M => by
      obtain ⟨L, rfl, _⟩ := p7
      rw [List.append_assoc]; exact get_app_old b0
    have b70 : h7[h.length]? = some (.box 30 (setupC s a)) := by simpa using b7 []
    refine wp_draw rfl [] 0 [(0, 0, []), (2, 0, []), (3, 0, []), (1, 0, []), (4, 0, [1]), (5, 0, []), (6, 0, []), (7, 0, []), (8, 0, []), (9, 0, [])] rfl (by decide) (by decide) ?_
    simp only [go_sem, t4, t12, t3, b7, b70]
    refine call_by (c45 _ xe ev wk (p7.sl he5) (by omega)) ?_
    rintro _ h8 ⟨rfl, e8⟩
    subst e8
    simp only [go_sem, t4, t12, t3, b7, b70]
    refine call_by (c18 (wr (s.fault * (faultsP ev wk : Int))) 1 (fit_wr _) (by simp [Fit]) _) ?_
    rintro _ h8 ⟨rfl, e8⟩
    subst e8
    obtain ⟨mk, hmk⟩ : ∃ mk, mk = make (wr (s.fault * (faultsP ev wk : Int))) 1 := ⟨_, rfl⟩
    rw [← hmk]
    simp only [go_sem, t4, t12, t3, b7, b70]
    refine call_by (c44s _ h6.length ((0, 1), z1.2) mk d7) ?_
    rintro _ h8 ⟨rfl, e8⟩
    obtain ⟨lost, hlost⟩ : ∃ lost, lost = takeS ((0, 1), z1.2) mk := ⟨_, rfl⟩
    rw [← hlost] at e8
    have p8 : Pre h5 h8 := by rw [e8]; exact p7.set (by omega) rfl
    have a8 : h8[h5.length]? = some (.box 65 (sumC z1)) := by rw [e8, List.getElem?_set_ne (by omega)]; exact a7
    have d8 : h8[h6.length]? = some (.box 65 (sumC lost)) := by rw [e8]; exact get_set_same d7
    have o8 : OwnS h5 h8 24 2 xg (G.map rrow) := by rw [e8]; exact o7.set_box d7 _
    clear e8 o7 a7 d7
    simp only [go_sem, d8, t15]
    refine call_by (c44s _ h5.length z1 lost a8) ?_
    rintro _ h9 ⟨rfl, e9⟩
    obtain ⟨z2, hz2⟩ : ∃ z2, z2 = takeS z1 lost := ⟨_, rfl⟩
    rw [← hz2] at e9
    have p9 : Pre h5 h9 := by rw [e9]; exact p8.set (Nat.le_refl _) rfl
    have a90 : h9[h5.length]? = some (.box 65 (sumC z2)) := by rw [e9]; exact get_set_same a8
    have a9 : ∀ M, (h9 ++ M)[h5.length]? = some (.box 65 (sumC z2)) := fun M => get_app_old a90
    have d9 : h9[h6.length]? = some (.box 65 (sumC lost)) := by rw [e9, List.getElem?_set_ne (by omega)]; exact d8
    have o9 : OwnS h5 h9 24 2 xg (G.map rrow) := by rw [e9]; exact o8.set_box a8 _
    clear e9 o8 a8 d8
    have hW : perfP s l w wk = finP z2 lost G n0 := by
      rw [hp, hz2, hlost, hmk, hz1, hz0, hG, hn0, hal, hgl, hel]
      rfl
    have hn0f : Fit n0 := by rw [hn0, hel]; exact fit_el _ _ (by simp [Fit])
    rw [hW, finP_eq]
    clear hW
    have flost : FitR lost.1 := by rw [hlost, hmk]; unfold takeS; split; exact fit_make _ _; exact ⟨by simp [Fit], by simp [Fit]⟩
    -- THE END
    cases q5 : z2.2 == 0
    · have g2 : ¬ z2.2 = 0 := by simpa using q5
      rw [if_neg g2, if_neg (fun q => g2 q.1)]
      simp only [go_sem, t15, a90, q5, bq_t]
      refine wp_draw rfl [.res] 1 [(1, 0, []), (2, 0, []), (0, 0, [2]), (3, 0, []), (4, 0, []), (5, 0, [])] rfl (by decide) (by decide) ?_
      simp only [go_sem, t15, a9]
      refine call_by (c40 _) ?_
      rintro _ h20 ⟨rfl, e20⟩
      rw [e20]
      clear e20 h20
      simp only [go_sem, t15, a9]
      obtain ⟨hD, eD⟩ : ∃ hD, hD = h9 ++ [Ob.box 65 [i64 0, i64 1, i64 z2.2]] := ⟨_, rfl⟩
      have pD : Pre h5 hD := by rw [eD]; exact p9.app (noRes1 rfl)
      have aD : hD[h5.length]? = some (.box 65 (sumC z2)) := by rw [eD]; exact a9 _
      have dD : hD[h9.length]? = some (.box 65 (sumC ((0, 1), z2.2))) := by rw [eD]; exact get_new0 rfl
      have lD : h5.length < h9.length := (List.getElem?_eq_some_iff.1 a90).1
      rw [← eD]
      clear eD
      by_cases g5 : n0 > 0 ∧ z2.2 = 0
      · exact absurd g5.2 g2
      · obtain ⟨dn, hdn⟩ : ∃ dn : Rat2 × Int, dn = ((0, 1), z2.2) := ⟨_, rfl⟩
        have hE : endP z2 n0 = if dn.2 = 0 then ⟨z2.1, n0, dn.1, 0⟩ else ⟨(0, 0), n0, (0, 0), dn.2⟩ := by
          unfold endP
          simp only [if_neg g5]
          rw [hdn]
        rw [← hdn] at dD
        by_cases g7 : n0 > 0
        · have d5 : decide (n0 > 0) = true := by simpa using g7
          have e5 : (z2.2 == 0) = false := by
            have : ¬ z2.2 = 0 := fun q => g5 ⟨g7, q⟩
            simpa using this
          simp only [go_sem, t9, d5, e5, bq_t, t15, aD]
          obtain ⟨M, hM, nM⟩ := pD
          have hfin : hD = h ++ .box 30 (setupC s a) :: .box 24 [i64 0, i64 0] :: .box 24 [i64 0, i64 0] :: (L1 ++ (L2 ++ M)) := by rw [hM, hh5]; simp
          have aR : ∀ o1 o2, (h ++ .box 30 (setupC s a) :: o1 :: o2 :: (L1 ++ (L2 ++ M)))[h5.length]? = some (.box 65 (sumC z2)) := fun o1 o2 => by rw [swap3 (p1 := .box 24 [i64 0, i64 0]) (p2 := .box 24 [i64 0, i64 0]) hlen5, ← hfin]; exact aD
          have dR : ∀ o1 o2, (h ++ .box 30 (setupC s a) :: o1 :: o2 :: (L1 ++ (L2 ++ M)))[h9.length]? = some (.box 65 (sumC dn)) := fun o1 o2 => by rw [swap3 (p1 := .box 24 [i64 0, i64 0]) (p2 := .box 24 [i64 0, i64 0]) (by omega), ← hfin]; exact dD
          rw [hfin]
          rw [hE]
          clear aD dD hfin
          by_cases g6 : dn.2 = 0
          · have f6 : (dn.2 != 0) = false := by simpa using g6
            rw [if_pos g6]
            simp only [go_sem, aR, dR, f6, t4, t8, t9, t10, t15]
            refine wp_draw rfl [] 0 [(0, 0, []), (2, 0, []), (3, 0, []), (1, 0, []), (4, 0, []), (5, 0, [4]), (6, 0, []), (7, 0, []), (8, 0, [])] rfl (by decide) (by decide) ?_
            simp only [go_sem, aR, dR, t4, t8, t9, t10, t15]
            (first | refine endA_pure0 ?_ | refine endA_pure ?_ (by rfl)) <;> (simp only [go_sem, t8, t10] <;> try rfl)
          · have f6 : (dn.2 != 0) = true := by simpa using g6
            rw [if_neg g6]
            simp only [go_sem, aR, dR, f6, t4, t8, t9, t10, t15]
            refine wp_draw rfl [] 0 [(0, 0, []), (1, 0, []), (2, 0, []), (3, 0, []), (4, 0, []), (5, 0, [4]), (6, 0, []), (7, 0, [4]), (8, 0, [])] rfl (by decide) (by decide) ?_
            simp only [go_sem, aR, dR, t4, t8, t9, t10, t15]
            (first | refine endA_pure0 ?_ | refine endA_pure ?_ (by rfl)) <;> (simp only [go_sem, t8, t10] <;> try rfl)
        · have d5 : decide (n0 > 0) = false := by simpa using g7
          simp only [go_sem, t9, d5, bq_t, t15]
          obtain ⟨M, hM, nM⟩ := pD
          have hfin : hD = h ++ .box 30 (setupC s a) :: .box 24 [i64 0, i64 0] :: .box 24 [i64 0, i64 0] :: (L1 ++ (L2 ++ M)) := by rw [hM, hh5]; simp
          have aR : ∀ o1 o2, (h ++ .box 30 (setupC s a) :: o1 :: o2 :: (L1 ++ (L2 ++ M)))[h5.length]? = some (.box 65 (sumC z2)) := fun o1 o2 => by rw [swap3 (p1 := .box 24 [i64 0, i64 0]) (p2 := .box 24 [i64 0, i64 0]) hlen5, ← hfin]; exact aD
          have dR : ∀ o1 o2, (h ++ .box 30 (setupC s a) :: o1 :: o2 :: (L1 ++ (L2 ++ M)))[h9.length]? = some (.box 65 (sumC dn)) := fun o1 o2 => by rw [swap3 (p1 := .box 24 [i64 0, i64 0]) (p2 := .box 24 [i64 0, i64 0]) (by omega), ← hfin]; exact dD
          rw [hfin]
          rw [hE]
          clear aD dD hfin
          by_cases g6 : dn.2 = 0
          · have f6 : (dn.2 != 0) = false := by simpa using g6
            rw [if_pos g6]
            simp only [go_sem, aR, dR, f6, t4, t8, t9, t10, t15]
            refine wp_draw rfl [] 0 [(0, 0, []), (2, 0, []), (3, 0, []), (1, 0, []), (4, 0, []), (5, 0, [4]), (6, 0, []), (7, 0, []), (8, 0, [])] rfl (by decide) (by decide) ?_
            simp only [go_sem, aR, dR, t4, t8, t9, t10, t15]
            (first | refine endA_pure0 ?_ | refine endA_pure ?_ (by rfl)) <;> (simp only [go_sem, t8, t10] <;> try rfl)
          · have f6 : (dn.2 != 0) = true := by simpa using g6
            rw [if_neg g6]
            simp only [go_sem, aR, dR, f6, t4, t8, t9, t10, t15]
            refine wp_draw rfl [] 0 [(0, 0, []), (1, 0, []), (2, 0, []), (3, 0, []), (4, 0, []), (5, 0, [4]), (6, 0, []), (7, 0, [4]), (8, 0, [])] rfl (by decide) (by decide) ?_
            simp only [go_sem, aR, dR, t4, t8, t9, t10, t15]
            (first | refine endA_pure0 ?_ | refine endA_pure ?_ (by rfl)) <;> (simp only [go_sem, t8, t10] <;> try rfl)
    · have g2 : z2.2 = 0 := by simpa using q5
      rw [if_pos g2]
      simp only [go_sem, t15, t16, a90, q5, bq_t]
      refine call_by (c23 _ xg G hGf hGl o9.rows) ?_
      rintro _ h10 ⟨rfl, e10⟩
      rw [e10]
      clear e10 h10
      have d9M : ∀ M, (h9 ++ M)[h6.length]? = some (.box 65 (sumC lost)) := fun M => get_app_old d9
      simp only [go_sem, d9, a9, d9M]
      refine call_by (c19 (sumR G).1 lost.1 (fit_sum G) flost _) ?_
      rintro _ h10 ⟨rfl, e10⟩
      rw [e10]
      clear e10 h10
      have hsub : twoR subV (sumR G).1 lost.1 = subR (sumR G).1 lost.1 := rfl
      rw [hsub]
      simp only [go_sem, t15]
      refine call_by (c44s _ h5.length z2 (subR (sumR G).1 lost.1) (a9 _)) ?_
      rintro _ hC ⟨rfl, eC⟩
      obtain ⟨z3, hz3⟩ : ∃ z3, z3 = takeS z2 (subR (sumR G).1 lost.1) := ⟨_, rfl⟩
      rw [← hz3] at eC ⊢
      have pC : Pre h5 hC := by rw [eC]; exact (p9.app (noRes1 rfl)).set (Nat.le_refl _) rfl
      have aC0 : hC[h5.length]? = some (.box 65 (sumC z3)) := by rw [eC]; exact get_set_same (a9 _)
      have aC : ∀ M, (hC ++ M)[h5.length]? = some (.box 65 (sumC z3)) := fun M => get_app_old aC0
      have fz3 : FitR z3.1 := by rw [hz3]; unfold takeS; rw [if_pos g2]; exact fit_two _ _ _
      clear eC
      cases q6 : z3.2 == 0
      · have g3 : ¬ z3.2 = 0 := by simpa using q6
        rw [if_neg (fun q => g3 q.1)]
        simp only [go_sem, t15, aC0, q6, bq_t]
        refine wp_draw rfl [.res] 1 [(1, 0, []), (2, 0, []), (0, 0, [2]), (3, 0, []), (4, 0, []), (5, 0, [])] rfl (by decide) (by decide) ?_
        simp only [go_sem, t15, aC]
        refine call_by (c40 _) ?_
        rintro _ h20 ⟨rfl, e20⟩
        rw [e20]
        clear e20 h20
        simp only [go_sem, t15, aC]
        obtain ⟨hD, eD⟩ : ∃ hD, hD = hC ++ [Ob.box 65 [i64 0, i64 1, i64 z3.2]] := ⟨_, rfl⟩
        have pD : Pre h5 hD := by rw [eD]; exact pC.app (noRes1 rfl)
        have aD : hD[h5.length]? = some (.box 65 (sumC z3)) := by rw [eD]; exact aC _
        have dD : hD[hC.length]? = some (.box 65 (sumC ((0, 1), z3.2))) := by rw [eD]; exact get_new0 rfl
        have lD : h5.length < hC.length := (List.getElem?_eq_some_iff.1 aC0).1
        rw [← eD]
        clear eD
        by_cases g5 : n0 > 0 ∧ z3.2 = 0
        · exact absurd g5.2 g3
        · obtain ⟨dn, hdn⟩ : ∃ dn : Rat2 × Int, dn = ((0, 1), z3.2) := ⟨_, rfl⟩
          have hE : endP z3 n0 = if dn.2 = 0 then ⟨z3.1, n0, dn.1, 0⟩ else ⟨(0, 0), n0, (0, 0), dn.2⟩ := by
            unfold endP
            simp only [if_neg g5]
            rw [hdn]
          rw [← hdn] at dD
          by_cases g7 : n0 > 0
          · have d5 : decide (n0 > 0) = true := by simpa using g7
            have e5 : (z3.2 == 0) = false := by
              have : ¬ z3.2 = 0 := fun q => g5 ⟨g7, q⟩
              simpa using this
            simp only [go_sem, t9, d5, e5, bq_t, t15, aD]
            obtain ⟨M, hM, nM⟩ := pD
            have hfin : hD = h ++ .box 30 (setupC s a) :: .box 24 [i64 0, i64 0] :: .box 24 [i64 0, i64 0] :: (L1 ++ (L2 ++ M)) := by rw [hM, hh5]; simp
            have aR : ∀ o1 o2, (h ++ .box 30 (setupC s a) :: o1 :: o2 :: (L1 ++ (L2 ++ M)))[h5.length]? = some (.box 65 (sumC z3)) := fun o1 o2 => by rw [swap3 (p1 := .box 24 [i64 0, i64 0]) (p2 := .box 24 [i64 0, i64 0]) hlen5, ← hfin]; exact aD
            have dR : ∀ o1 o2, (h ++ .box 30 (setupC s a) :: o1 :: o2 :: (L1 ++ (L2 ++ M)))[hC.length]? = some (.box 65 (sumC dn)) := fun o1 o2 => by rw [swap3 (p1 := .box 24 [i64 0, i64 0]) (p2 := .box 24 [i64 0, i64 0]) (by omega), ← hfin]; exact dD
            rw [hfin]
            rw [hE]
            clear aD dD hfin
            by_cases g6 : dn.2 = 0
            · have f6 : (dn.2 != 0) = false := by simpa using g6
              rw [if_pos g6]
              simp only [go_sem, aR, dR, f6, t4, t8, t9, t10, t15]
              refine wp_draw rfl [] 0 [(0, 0, []), (2, 0, []), (3, 0, []), (1, 0, []), (4, 0, []), (5, 0, [4]), (6, 0, []), (7, 0, []), (8, 0, [])] rfl (by decide) (by decide) ?_
              simp only [go_sem, aR, dR, t4, t8, t9, t10, t15]
              (first | refine endA_pure0 ?_ | refine endA_pure ?_ (by rfl)) <;> (simp only [go_sem, t8, t10] <;> try rfl)
            · have f6 : (dn.2 != 0) = true := by simpa using g6
              rw [if_neg g6]
              simp only [go_sem, aR, dR, f6, t4, t8, t9, t10, t15]
              refine wp_draw rfl [] 0 [(0, 0, []), (1, 0, []), (2, 0, []), (3, 0, []), (4, 0, []), (5, 0, [4]), (6, 0, []), (7, 0, [4]), (8, 0, [])] rfl (by decide) (by decide) ?_
              simp only [go_sem, aR, dR, t4, t8, t9, t10, t15]
              (first | refine endA_pure0 ?_ | refine endA_pure ?_ (by rfl)) <;> (simp only [go_sem, t8, t10] <;> try rfl)
          · have d5 : decide (n0 > 0) = false := by simpa using g7
            simp only [go_sem, t9, d5, bq_t, t15]
            obtain ⟨M, hM, nM⟩ := pD
            have hfin : hD = h ++ .box 30 (setupC s a) :: .box 24 [i64 0, i64 0] :: .box 24 [i64 0, i64 0] :: (L1 ++ (L2 ++ M)) := by rw [hM, hh5]; simp
            have aR : ∀ o1 o2, (h ++ .box 30 (setupC s a) :: o1 :: o2 :: (L1 ++ (L2 ++ M)))[h5.length]? = some (.box 65 (sumC z3)) := fun o1 o2 => by rw [swap3 (p1 := .box 24 [i64 0, i64 0]) (p2 := .box 24 [i64 0, i64 0]) hlen5, ← hfin]; exact aD
            have dR : ∀ o1 o2, (h ++ .box 30 (setupC s a) :: o1 :: o2 :: (L1 ++ (L2 ++ M)))[hC.length]? = some (.box 65 (sumC dn)) := fun o1 o2 => by rw [swap3 (p1 := .box 24 [i64 0, i64 0]) (p2 := .box 24 [i64 0, i64 0]) (by omega), ← hfin]; exact dD
            rw [hfin]
            rw [hE]
            clear aD dD hfin
            by_cases g6 : dn.2 = 0
            · have f6 : (dn.2 != 0) = false := by simpa using g6
              rw [if_pos g6]
              simp only [go_sem, aR, dR, f6, t4, t8, t9, t10, t15]
              refine wp_draw rfl [] 0 [(0, 0, []), (2, 0, []), (3, 0, []), (1, 0, []), (4, 0, []), (5, 0, [4]), (6, 0, []), (7, 0, []), (8, 0, [])] rfl (by decide) (by decide) ?_
              simp only [go_sem, aR, dR, t4, t8, t9, t10, t15]
              (first | refine endA_pure0 ?_ | refine endA_pure ?_ (by rfl)) <;> (simp only [go_sem, t8, t10] <;> try rfl)
            · have f6 : (dn.2 != 0) = true := by simpa using g6
              rw [if_neg g6]
              simp only [go_sem, aR, dR, f6, t4, t8, t9, t10, t15]
              refine wp_draw rfl [] 0 [(0, 0, []), (1, 0, []), (2, 0, []), (3, 0, []), (4, 0, []), (5, 0, [4]), (6, 0, []), (7, 0, [4]), (8, 0, [])] rfl (by decide) (by decide) ?_
              simp only [go_sem, aR, dR, t4, t8, t9, t10, t15]
              (first | refine endA_pure0 ?_ | refine endA_pure ?_ (by rfl)) <;> (simp only [go_sem, t8, t10] <;> try rfl)
      · have g3 : z3.2 = 0 := by simpa using q6
        cases q7 : decide (z3.1.1 < 0)
        · have g4 : ¬ z3.1.1 < 0 := by simpa using q7
          rw [if_neg (fun q => g4 q.2)]
          simp only [go_sem, t15, aC0, q6, q7, bq_t]
          refine wp_draw rfl [.res] 1 [(1, 0, []), (2, 0, []), (0, 0, [2]), (3, 0, []), (4, 0, []), (5, 0, [])] rfl (by decide) (by decide) ?_
          simp only [go_sem, t15, aC]
          refine call_by (c40 _) ?_
          rintro _ h20 ⟨rfl, e20⟩
          rw [e20]
          clear e20 h20
          simp only [go_sem, t15, aC]
          obtain ⟨hD, eD⟩ : ∃ hD, hD = hC ++ [Ob.box 65 [i64 0, i64 1, i64 z3.2]] := ⟨_, rfl⟩
          have pD : Pre h5 hD := by rw [eD]; exact pC.app (noRes1 rfl)
          have aD : hD[h5.length]? = some (.box 65 (sumC z3)) := by rw [eD]; exact aC _
          have dD : hD[hC.length]? = some (.box 65 (sumC ((0, 1), z3.2))) := by rw [eD]; exact get_new0 rfl
          have lD : h5.length < hC.length := (List.getElem?_eq_some_iff.1 aC0).1
          rw [← eD]
          clear eD
          by_cases g5 : n0 > 0 ∧ z3.2 = 0
          · have d5 : decide (n0 > 0) = true := by simpa using g5.1
            have e5 : (z3.2 == 0) = true := by simpa using g5.2
            simp only [go_sem, t9, d5, e5, bq_t, t15, aD, dD]
            refine call_by (c18 n0 1 hn0f (by simp [Fit]) _) ?_
            rintro _ h21 ⟨rfl, e21⟩
            rw [e21]
            clear e21 h21
            obtain ⟨mn, hmn⟩ : ∃ mn, mn = make n0 1 := ⟨_, rfl⟩
            rw [← hmn]
            have fmn : FitR mn.1 := by rw [hmn]; exact fit_make _ _
            simp only [go_sem]
            refine call_by (c44s _ hC.length ((0, 1), z3.2) mn (get_app_old dD)) ?_
            rintro _ hE0 ⟨rfl, eE⟩
            obtain ⟨dm, hdm⟩ : ∃ dm, dm = takeS ((0, 1), z3.2) mn := ⟨_, rfl⟩
            rw [← hdm] at eE
            have pE : Pre h5 hE0 := by rw [eE]; exact (pD.app (noRes1 rfl)).set (by omega) rfl
            have aE : hE0[h5.length]? = some (.box 65 (sumC z3)) := by rw [eE, List.getElem?_set_ne (by omega)]; exact get_app_old aD
            have bE : hE0[hD.length]? = some (.box 24 [i64 mn.1.1, i64 mn.1.2]) := by
              have := (List.getElem?_eq_some_iff.1 dD).1
              rw [eE, List.getElem?_set_ne (by omega)]; exact get_new0 rfl
            have dE : hE0[hC.length]? = some (.box 65 (sumC dm)) := by rw [eE]; exact get_set_same (get_app_old dD)
            clear eE aD dD
            simp only [go_sem, t15, aE, bE]
            refine call_by (c46 z3.1 mn.1 fz3 fmn _) ?_
            rintro _ h22 ⟨rfl, e22⟩
            rw [e22]
            clear e22 h22
            obtain ⟨dv, hdv⟩ : ∃ dv, dv = divR z3.1 mn.1 := ⟨_, rfl⟩
            have hdv2 : twoR divV z3.1 mn.1 = dv := hdv.symm
            rw [hdv2]
            simp only [go_sem]
            refine call_by (c44s _ hC.length dm dv dE) ?_
            rintro _ hG ⟨rfl, eG⟩
            obtain ⟨dn, hdn⟩ : ∃ dn, dn = takeS dm dv := ⟨_, rfl⟩
            rw [← hdn] at eG
            have pG : Pre h5 hG := by rw [eG]; exact pE.set (by omega) rfl
            have aG : hG[h5.length]? = some (.box 65 (sumC z3)) := by rw [eG, List.getElem?_set_ne (by omega)]; exact aE
            have dG : hG[hC.length]? = some (.box 65 (sumC dn)) := by rw [eG]; exact get_set_same dE
            clear eG aE bE dE
            have hE : endP z3 n0 = if dn.2 = 0 then ⟨z3.1, n0, dn.1, 0⟩ else ⟨(0, 0), n0, (0, 0), dn.2⟩ := by
              unfold endP
              simp only [if_pos g5]
              rw [← hmn, ← hdm, ← hdv, ← hdn]
            obtain ⟨M, hM, nM⟩ := pG
            have hfin : hG = h ++ .box 30 (setupC s a) :: .box 24 [i64 0, i64 0] :: .box 24 [i64 0, i64 0] :: (L1 ++ (L2 ++ M)) := by rw [hM, hh5]; simp
            have aR : ∀ o1 o2, (h ++ .box 30 (setupC s a) :: o1 :: o2 :: (L1 ++ (L2 ++ M)))[h5.length]? = some (.box 65 (sumC z3)) := fun o1 o2 => by rw [swap3 (p1 := .box 24 [i64 0, i64 0]) (p2 := .box 24 [i64 0, i64 0]) hlen5, ← hfin]; exact aG
            have dR : ∀ o1 o2, (h ++ .box 30 (setupC s a) :: o1 :: o2 :: (L1 ++ (L2 ++ M)))[hC.length]? = some (.box 65 (sumC dn)) := fun o1 o2 => by rw [swap3 (p1 := .box 24 [i64 0, i64 0]) (p2 := .box 24 [i64 0, i64 0]) (by omega), ← hfin]; exact dG
            rw [hfin]
            rw [hE]
            clear aG dG hfin
            by_cases g6 : dn.2 = 0
            · have f6 : (dn.2 != 0) = false := by simpa using g6
              rw [if_pos g6]
              simp only [go_sem, aR, dR, f6, t4, t8, t9, t10, t15]
              refine wp_draw rfl [] 0 [(0, 0, []), (2, 0, []), (3, 0, []), (1, 0, []), (4, 0, []), (5, 0, [4]), (6, 0, []), (7, 0, []), (8, 0, [])] rfl (by decide) (by decide) ?_
              simp only [go_sem, aR, dR, t4, t8, t9, t10, t15]
              (first | refine endA_pure0 ?_ | refine endA_pure ?_ (by rfl)) <;> (simp only [go_sem, t8, t10] <;> try rfl)
            · have f6 : (dn.2 != 0) = true := by simpa using g6
              rw [if_neg g6]
              simp only [go_sem, aR, dR, f6, t4, t8, t9, t10, t15]
              refine wp_draw rfl [] 0 [(0, 0, []), (1, 0, []), (2, 0, []), (3, 0, []), (4, 0, []), (5, 0, [4]), (6, 0, []), (7, 0, [4]), (8, 0, [])] rfl (by decide) (by decide) ?_
              simp only [go_sem, aR, dR, t4, t8, t9, t10, t15]
              (first | refine endA_pure0 ?_ | refine endA_pure ?_ (by rfl)) <;> (simp only [go_sem, t8, t10] <;> try rfl)
          · obtain ⟨dn, hdn⟩ : ∃ dn : Rat2 × Int, dn = ((0, 1), z3.2) := ⟨_, rfl⟩
            have hE : endP z3 n0 = if dn.2 = 0 then ⟨z3.1, n0, dn.1, 0⟩ else ⟨(0, 0), n0, (0, 0), dn.2⟩ := by
              unfold endP
              simp only [if_neg g5]
              rw [hdn]
            rw [← hdn] at dD
            by_cases g7 : n0 > 0
            · have d5 : decide (n0 > 0) = true := by simpa using g7
              have e5 : (z3.2 == 0) = false := by
                have : ¬ z3.2 = 0 := fun q => g5 ⟨g7, q⟩
                simpa using this
              simp only [go_sem, t9, d5, e5, bq_t, t15, aD]
              obtain ⟨M, hM, nM⟩ := pD
              have hfin : hD = h ++ .box 30 (setupC s a) :: .box 24 [i64 0, i64 0] :: .box 24 [i64 0, i64 0] :: (L1 ++ (L2 ++ M)) := by rw [hM, hh5]; simp
              have aR : ∀ o1 o2, (h ++ .box 30 (setupC s a) :: o1 :: o2 :: (L1 ++ (L2 ++ M)))[h5.length]? = some (.box 65 (sumC z3)) := fun o1 o2 => by rw [swap3 (p1 := .box 24 [i64 0, i64 0]) (p2 := .box 24 [i64 0, i64 0]) hlen5, ← hfin]; exact aD
              have dR : ∀ o1 o2, (h ++ .box 30 (setupC s a) :: o1 :: o2 :: (L1 ++ (L2 ++ M)))[hC.length]? = some (.box 65 (sumC dn)) := fun o1 o2 => by rw [swap3 (p1 := .box 24 [i64 0, i64 0]) (p2 := .box 24 [i64 0, i64 0]) (by omega), ← hfin]; exact dD
              rw [hfin]
              rw [hE]
              clear aD dD hfin
              by_cases g6 : dn.2 = 0
              · have f6 : (dn.2 != 0) = false := by simpa using g6
                rw [if_pos g6]
                simp only [go_sem, aR, dR, f6, t4, t8, t9, t10, t15]
                refine wp_draw rfl [] 0 [(0, 0, []), (2, 0, []), (3, 0, []), (1, 0, []), (4, 0, []), (5, 0, [4]), (6, 0, []), (7, 0, []), (8, 0, [])] rfl (by decide) (by decide) ?_
                simp only [go_sem, aR, dR, t4, t8, t9, t10, t15]
                (first | refine endA_pure0 ?_ | refine endA_pure ?_ (by rfl)) <;> (simp only [go_sem, t8, t10] <;> try rfl)
              · have f6 : (dn.2 != 0) = true := by simpa using g6
                rw [if_neg g6]
                simp only [go_sem, aR, dR, f6, t4, t8, t9, t10, t15]
                refine wp_draw rfl [] 0 [(0, 0, []), (1, 0, []), (2, 0, []), (3, 0, []), (4, 0, []), (5, 0, [4]), (6, 0, []), (7, 0, [4]), (8, 0, [])] rfl (by decide) (by decide) ?_
                simp only [go_sem, aR, dR, t4, t8, t9, t10, t15]
                (first | refine endA_pure0 ?_ | refine endA_pure ?_ (by rfl)) <;> (simp only [go_sem, t8, t10] <;> try rfl)
            · have d5 : decide (n0 > 0) = false := by simpa using g7
              simp only [go_sem, t9, d5, bq_t, t15]
              obtain ⟨M, hM, nM⟩ := pD
              have hfin : hD = h ++ .box 30 (setupC s a) :: .box 24 [i64 0, i64 0] :: .box 24 [i64 0, i64 0] :: (L1 ++ (L2 ++ M)) := by rw [hM, hh5]; simp
              have aR : ∀ o1 o2, (h ++ .box 30 (setupC s a) :: o1 :: o2 :: (L1 ++ (L2 ++ M)))[h5.length]? = some (.box 65 (sumC z3)) := fun o1 o2 => by rw [swap3 (p1 := .box 24 [i64 0, i64 0]) (p2 := .box 24 [i64 0, i64 0]) hlen5, ← hfin]; exact aD
              have dR : ∀ o1 o2, (h ++ .box 30 (setupC s a) :: o1 :: o2 :: (L1 ++ (L2 ++ M)))[hC.length]? = some (.box 65 (sumC dn)) := fun o1 o2 => by rw [swap3 (p1 := .box 24 [i64 0, i64 0]) (p2 := .box 24 [i64 0, i64 0]) (by omega), ← hfin]; exact dD
              rw [hfin]
              rw [hE]
              clear aD dD hfin
              by_cases g6 : dn.2 = 0
              · have f6 : (dn.2 != 0) = false := by simpa using g6
                rw [if_pos g6]
                simp only [go_sem, aR, dR, f6, t4, t8, t9, t10, t15]
                refine wp_draw rfl [] 0 [(0, 0, []), (2, 0, []), (3, 0, []), (1, 0, []), (4, 0, []), (5, 0, [4]), (6, 0, []), (7, 0, []), (8, 0, [])] rfl (by decide) (by decide) ?_
                simp only [go_sem, aR, dR, t4, t8, t9, t10, t15]
                (first | refine endA_pure0 ?_ | refine endA_pure ?_ (by rfl)) <;> (simp only [go_sem, t8, t10] <;> try rfl)
              · have f6 : (dn.2 != 0) = true := by simpa using g6
                rw [if_neg g6]
                simp only [go_sem, aR, dR, f6, t4, t8, t9, t10, t15]
                refine wp_draw rfl [] 0 [(0, 0, []), (1, 0, []), (2, 0, []), (3, 0, []), (4, 0, []), (5, 0, [4]), (6, 0, []), (7, 0, [4]), (8, 0, [])] rfl (by decide) (by decide) ?_
                simp only [go_sem, aR, dR, t4, t8, t9, t10, t15]
                (first | refine endA_pure0 ?_ | refine endA_pure ?_ (by rfl)) <;> (simp only [go_sem, t8, t10] <;> try rfl)
        · have g4 : z3.1.1 < 0 := by simpa using q7
          rw [if_pos ⟨g3, g4⟩]
          simp only [go_sem, t15, aC0, q6, q7, bq_t]
          refine call_by (c40 _) ?_
          rintro _ h12 ⟨rfl, e12⟩
          rw [e12]
          clear e12 h12
          simp only [go_sem, t15, aC0]
          obtain ⟨z4, hz4⟩ : ∃ z4 : Rat2 × Int, z4 = ((0, 1), z3.2) := ⟨_, rfl⟩
          obtain ⟨hK, eK⟩ : ∃ hK, hK = hC.set h5.length (.box 65 [i64 0, i64 1, i64 z3.2]) := ⟨_, rfl⟩
          have pK : Pre h5 hK := by rw [eK]; exact pC.set (Nat.le_refl _) rfl
          have aK0 : hK[h5.length]? = some (.box 65 (sumC z4)) := by rw [eK, get_set_same aC0, hz4]
          have aK : ∀ M, (hK ++ M)[h5.length]? = some (.box 65 (sumC z4)) := fun M => get_app_old aK0
          have fz4 : FitR z4.1 := by rw [hz4]; exact ⟨by simp [Fit], by simp [Fit]⟩
          rw [← eK, ← hz4]
          clear eK
          refine wp_draw rfl [.res] 1 [(1, 0, []), (2, 0, []), (0, 0, [2]), (3, 0, []), (4, 0, []), (5, 0, [])] rfl (by decide) (by decide) ?_
          simp only [go_sem, t15, aK]
          refine call_by (c40 _) ?_
          rintro _ h20 ⟨rfl, e20⟩
          rw [e20]
          clear e20 h20
          simp only [go_sem, t15, aK]
          obtain ⟨hD, eD⟩ : ∃ hD, hD = hK ++ [Ob.box 65 [i64 0, i64 1, i64 z4.2]] := ⟨_, rfl⟩
          have pD : Pre h5 hD := by rw [eD]; exact pK.app (noRes1 rfl)
          have aD : hD[h5.length]? = some (.box 65 (sumC z4)) := by rw [eD]; exact aK _
          have dD : hD[hK.length]? = some (.box 65 (sumC ((0, 1), z4.2))) := by rw [eD]; exact get_new0 rfl
          have lD : h5.length < hK.length := (List.getElem?_eq_some_iff.1 aK0).1
          rw [← eD]
          clear eD
          by_cases g5 : n0 > 0 ∧ z4.2 = 0
          · have d5 : decide (n0 > 0) = true := by simpa using g5.1
            have e5 : (z4.2 == 0) = true := by simpa using g5.2
            simp only [go_sem, t9, d5, e5, bq_t, t15, aD, dD]
            refine call_by (c18 n0 1 hn0f (by simp [Fit]) _) ?_
            rintro _ h21 ⟨rfl, e21⟩
            rw [e21]
            clear e21 h21
            obtain ⟨mn, hmn⟩ : ∃ mn, mn = make n0 1 := ⟨_, rfl⟩
            rw [← hmn]
            have fmn : FitR mn.1 := by rw [hmn]; exact fit_make _ _
            simp only [go_sem]
            refine call_by (c44s _ hK.length ((0, 1), z4.2) mn (get_app_old dD)) ?_
            rintro _ hE0 ⟨rfl, eE⟩
            obtain ⟨dm, hdm⟩ : ∃ dm, dm = takeS ((0, 1), z4.2) mn := ⟨_, rfl⟩
            rw [← hdm] at eE
            have pE : Pre h5 hE0 := by rw [eE]; exact (pD.app (noRes1 rfl)).set (by omega) rfl
            have aE : hE0[h5.length]? = some (.box 65 (sumC z4)) := by rw [eE, List.getElem?_set_ne (by omega)]; exact get_app_old aD
            have bE : hE0[hD.length]? = some (.box 24 [i64 mn.1.1, i64 mn.1.2]) := by
              have := (List.getElem?_eq_some_iff.1 dD).1
              rw [eE, List.getElem?_set_ne (by omega)]; exact get_new0 rfl
            have dE : hE0[hK.length]? = some (.box 65 (sumC dm)) := by rw [eE]; exact get_set_same (get_app_old dD)
            clear eE aD dD
            simp only [go_sem, t15, aE, bE]
            refine call_by (c46 z4.1 mn.1 fz4 fmn _) ?_
            rintro _ h22 ⟨rfl, e22⟩
            rw [e22]
            clear e22 h22
            obtain ⟨dv, hdv⟩ : ∃ dv, dv = divR z4.1 mn.1 := ⟨_, rfl⟩
            have hdv2 : twoR divV z4.1 mn.1 = dv := hdv.symm
            rw [hdv2]
            simp only [go_sem]
            refine call_by (c44s _ hK.length dm dv dE) ?_
            rintro _ hG ⟨rfl, eG⟩
            obtain ⟨dn, hdn⟩ : ∃ dn, dn = takeS dm dv := ⟨_, rfl⟩
            rw [← hdn] at eG
            have pG : Pre h5 hG := by rw [eG]; exact pE.set (by omega) rfl
            have aG : hG[h5.length]? = some (.box 65 (sumC z4)) := by rw [eG, List.getElem?_set_ne (by omega)]; exact aE
            have dG : hG[hK.length]? = some (.box 65 (sumC dn)) := by rw [eG]; exact get_set_same dE
            clear eG aE bE dE
            have hE : endP z4 n0 = if dn.2 = 0 then ⟨z4.1, n0, dn.1, 0⟩ else ⟨(0, 0), n0, (0, 0), dn.2⟩ := by
              unfold endP
              simp only [if_pos g5]
              rw [← hmn, ← hdm, ← hdv, ← hdn]
            obtain ⟨M, hM, nM⟩ := pG
            have hfin : hG = h ++ .box 30 (setupC s a) :: .box 24 [i64 0, i64 0] :: .box 24 [i64 0, i64 0] :: (L1 ++ (L2 ++ M)) := by rw [hM, hh5]; simp
            have aR : ∀ o1 o2, (h ++ .box 30 (setupC s a) :: o1 :: o2 :: (L1 ++ (L2 ++ M)))[h5.length]? = some (.box 65 (sumC z4)) := fun o1 o2 => by rw [swap3 (p1 := .box 24 [i64 0, i64 0]) (p2 := .box 24 [i64 0, i64 0]) hlen5, ← hfin]; exact aG
            have dR : ∀ o1 o2, (h ++ .box 30 (setupC s a) :: o1 :: o2 :: (L1 ++ (L2 ++ M)))[hK.length]? = some (.box 65 (sumC dn)) := fun o1 o2 => by rw [swap3 (p1 := .box 24 [i64 0, i64 0]) (p2 := .box 24 [i64 0, i64 0]) (by omega), ← hfin]; exact dG
            rw [hfin]
            rw [hE]
            clear aG dG hfin
            by_cases g6 : dn.2 = 0
            · have f6 : (dn.2 != 0) = false := by simpa using g6
              rw [if_pos g6]
              simp only [go_sem, aR, dR, f6, t4, t8, t9, t10, t15]
              refine wp_draw rfl [] 0 [(0, 0, []), (2, 0, []), (3, 0, []), (1, 0, []), (4, 0, []), (5, 0, [4]), (6, 0, []), (7, 0, []), (8, 0, [])] rfl (by decide) (by decide) ?_
              simp only [go_sem, aR, dR, t4, t8, t9, t10, t15]
              (first | refine endA_pure0 ?_ | refine endA_pure ?_ (by rfl)) <;> (simp only [go_sem, t8, t10] <;> try rfl)
            · have f6 : (dn.2 != 0) = true := by simpa using g6
              rw [if_neg g6]
              simp only [go_sem, aR, dR, f6, t4, t8, t9, t10, t15]
              refine wp_draw rfl [] 0 [(0, 0, []), (1, 0, []), (2, 0, []), (3, 0, []), (4, 0, []), (5, 0, [4]), (6, 0, []), (7, 0, [4]), (8, 0, [])] rfl (by decide) (by decide) ?_
              simp only [go_sem, aR, dR, t4, t8, t9, t10, t15]
              (first | refine endA_pure0 ?_ | refine endA_pure ?_ (by rfl)) <;> (simp only [go_sem, t8, t10] <;> try rfl)
          · obtain ⟨dn, hdn⟩ : ∃ dn : Rat2 × Int, dn = ((0, 1), z4.2) := ⟨_, rfl⟩
            have hE : endP z4 n0 = if dn.2 = 0 then ⟨z4.1, n0, dn.1, 0⟩ else ⟨(0, 0), n0, (0, 0), dn.2⟩ := by
              unfold endP
              simp only [if_neg g5]
              rw [hdn]
            rw [← hdn] at dD
            by_cases g7 : n0 > 0
            · have d5 : decide (n0 > 0) = true := by simpa using g7
              have e5 : (z4.2 == 0) = false := by
                have : ¬ z4.2 = 0 := fun q => g5 ⟨g7, q⟩
                simpa using this
              simp only [go_sem, t9, d5, e5, bq_t, t15, aD]
              obtain ⟨M, hM, nM⟩ := pD
              have hfin : hD = h ++ .box 30 (setupC s a) :: .box 24 [i64 0, i64 0] :: .box 24 [i64 0, i64 0] :: (L1 ++ (L2 ++ M)) := by rw [hM, hh5]; simp
              have aR : ∀ o1 o2, (h ++ .box 30 (setupC s a) :: o1 :: o2 :: (L1 ++ (L2 ++ M)))[h5.length]? = some (.box 65 (sumC z4)) := fun o1 o2 => by rw [swap3 (p1 := .box 24 [i64 0, i64 0]) (p2 := .box 24 [i64 0, i64 0]) hlen5, ← hfin]; exact aD
              have dR : ∀ o1 o2, (h ++ .box 30 (setupC s a) :: o1 :: o2 :: (L1 ++ (L2 ++ M)))[hK.length]? = some (.box 65 (sumC dn)) := fun o1 o2 => by rw [swap3 (p1 := .box 24 [i64 0, i64 0]) (p2 := .box 24 [i64 0, i64 0]) (by omega), ← hfin]; exact dD
              rw [hfin]
              rw [hE]
              clear aD dD hfin
              by_cases g6 : dn.2 = 0
              · have f6 : (dn.2 != 0) = false := by simpa using g6
                rw [if_pos g6]
                simp only [go_sem, aR, dR, f6, t4, t8, t9, t10, t15]
                refine wp_draw rfl [] 0 [(0, 0, []), (2, 0, []), (3, 0, []), (1, 0, []), (4, 0, []), (5, 0, [4]), (6, 0, []), (7, 0, []), (8, 0, [])] rfl (by decide) (by decide) ?_
                simp only [go_sem, aR, dR, t4, t8, t9, t10, t15]
                (first | refine endA_pure0 ?_ | refine endA_pure ?_ (by rfl)) <;> (simp only [go_sem, t8, t10] <;> try rfl)
              · have f6 : (dn.2 != 0) = true := by simpa using g6
                rw [if_neg g6]
                simp only [go_sem, aR, dR, f6, t4, t8, t9, t10, t15]
                refine wp_draw rfl [] 0 [(0, 0, []), (1, 0, []), (2, 0, []), (3, 0, []), (4, 0, []), (5, 0, [4]), (6, 0, []), (7, 0, [4]), (8, 0, [])] rfl (by decide) (by decide) ?_
                simp only [go_sem, aR, dR, t4, t8, t9, t10, t15]
                (first | refine endA_pure0 ?_ | refine endA_pure ?_ (by rfl)) <;> (simp only [go_sem, t8, t10] <;> try rfl)
            · have d5 : decide (n0 > 0) = false := by simpa using g7
              simp only [go_sem, t9, d5, bq_t, t15]
              obtain ⟨M, hM, nM⟩ := pD
              have hfin : hD = h ++ .box 30 (setupC s a) :: .box 24 [i64 0, i64 0] :: .box 24 [i64 0, i64 0] :: (L1 ++ (L2 ++ M)) := by rw [hM, hh5]; simp
              have aR : ∀ o1 o2, (h ++ .box 30 (setupC s a) :: o1 :: o2 :: (L1 ++ (L2 ++ M)))[h5.length]? = some (.box 65 (sumC z4)) := fun o1 o2 => by rw [swap3 (p1 := .box 24 [i64 0, i64 0]) (p2 := .box 24 [i64 0, i64 0]) hlen5, ← hfin]; exact aD
              have dR : ∀ o1 o2, (h ++ .box 30 (setupC s a) :: o1 :: o2 :: (L1 ++ (L2 ++ M)))[hK.length]? = some (.box 65 (sumC dn)) := fun o1 o2 => by rw [swap3 (p1 := .box 24 [i64 0, i64 0]) (p2 := .box 24 [i64 0, i64 0]) (by omega), ← hfin]; exact dD
              rw [hfin]
              rw [hE]
              clear aD dD hfin
              by_cases g6 : dn.2 = 0
              · have f6 : (dn.2 != 0) = false := by simpa using g6
                rw [if_pos g6]
                simp only [go_sem, aR, dR, f6, t4, t8, t9, t10, t15]
                refine wp_draw rfl [] 0 [(0, 0, []), (2, 0, []), (3, 0, []), (1, 0, []), (4, 0, []), (5, 0, [4]), (6, 0, []), (7, 0, []), (8, 0, [])] rfl (by decide) (by decide) ?_
                simp only [go_sem, aR, dR, t4, t8, t9, t10, t15]
                (first | refine endA_pure0 ?_ | refine endA_pure ?_ (by rfl)) <;> (simp only [go_sem, t8, t10] <;> try rfl)
              · have f6 : (dn.2 != 0) = true := by simpa using g6
                rw [if_neg g6]
                simp only [go_sem, aR, dR, f6, t4, t8, t9, t10, t15]
                refine wp_draw rfl [] 0 [(0, 0, []), (1, 0, []), (2, 0, []), (3, 0, []), (4, 0, []), (5, 0, [4]), (6, 0, []), (7, 0, [4]), (8, 0, [])] rfl (by decide) (by decide) ?_
                simp only [go_sem, aR, dR, t4, t8, t9, t10, t15]
                (first | refine endA_pure0 ?_ | refine endA_pure ?_ (by rfl)) <;> (simp only [go_sem, t8, t10] <;> try rfl)
end Go.Proofs.YtpdghiplnlhnfaaGreat.Ax
