/-
  Joined: Sort2. Nothing is proved here of a statement.
-/
import Derived.Test.YtpdghiplnlhnfaaGreatMI
import Derived.Test.YtpdghiplnlhnfaaGreatMX
namespace Go.Proofs.YtpdghiplnlhnfaaGreat.Ax
set_option linter.unusedSimpArgs false
set_option linter.unusedVariables false
open Go Go.Proofs
set_option maxRecDepth 100000
set_option linter.unusedSimpArgs false
set_option linter.unusedVariables false
attribute [go_sem] ty162
theorem mid_at {i j : Nat} (h : i + j < 4611686018427387904) : IntKind.wrap .i64 ((IntKind.wrap .u64 (IntKind.wrap .i64 ((i : Int) + (j : Int)))).fdiv (2 ^ min 1 64)) = (((i + j) / 2 : Nat) : Int) := by
  rw [show IntKind.wrap .i64 ((i : Int) + (j : Int)) = ((i + j : Nat) : Int) from wr_add h, show IntKind.wrap .u64 ((i + j : Nat) : Int) = ((i + j : Nat) : Int) by rw [IntKind.wrap_u64]; omega,
    Int.fdiv_eq_ediv_of_nonneg _ (by decide), show ((2 : Int) ^ min 1 64) = 2 by decide, Go.IntWalk.i64_in _ (by omega)]
  omega
theorem i64_congr {a b : Nat} (h : a = b) : i64 (a : Int) = i64 (b : Int) := by rw [h]
theorem get_inA {P A R : List Ev} {i : Nat} (h1 : P.length ≤ i) (h2 : i - P.length < A.length) : (P ++ (A ++ R))[i]? = some A[i - P.length]! := by
  rw [List.getElem?_append_right h1, List.getElem?_append_left h2, List.getElem?_eq_getElem h2, getElem!_pos A _ h2]
theorem get_inD {P A D R : List Ev} {i : Nat} (h1 : P.length + A.length ≤ i) (h2 : i - (P.length + A.length) < D.length) : (P ++ (A ++ (D ++ R)))[i]? = some D[i - (P.length + A.length)]! := by
  rw [← List.append_assoc]
  have := get_inA (P := P ++ A) (A := D) (R := R) (i := i) (by simp; omega) (by simp; omega)
  rw [this, List.length_append]
theorem bq_t {b : Bool} : (b == true) = b := by cases b <;> rfl
theorem len_bound {a b : Nat} (h : a < b) : (a : Int) < (b : Int) := by omega
theorem srt_get {l : List Ev} (h : Srt l) {p q : Nat} (hpq : p ≤ q) (hq : q < l.length) : ltE l[q]! l[p]! = false := by
  induction l generalizing p q with
  | nil => simp at hq
  | cons x l ih =>
    obtain ⟨h1, h2⟩ := h
    cases q with
    | zero =>
      have : p = 0 := by omega
      subst this
      rw [ltE_not]; simp
    | succ q =>
      have hq' : q < l.length := by simpa using hq
      cases p with
      | zero =>
        simp only [List.getElem!_cons_succ, List.getElem!_cons_zero]
        exact h1 _ (by rw [getElem!_pos l q hq']; exact List.getElem_mem hq')
      | succ p =>
        simp only [List.getElem!_cons_succ]
        exact ih h2 (by omega) hq'
theorem mem_take_get {l : List Ev} {x : Ev} {i : Nat} (h : x ∈ l.take i) : ∃ p, p < i ∧ p < l.length ∧ l[p]! = x := by
  obtain ⟨p, hp, hx⟩ := List.mem_iff_getElem.1 h
  rw [List.length_take] at hp
  refine ⟨p, by omega, by omega, ?_⟩
  rw [getElem!_pos l p (by omega), ← hx, List.getElem_take]
theorem mem_drop_get {l : List Ev} {x : Ev} {i : Nat} (h : x ∈ l.drop i) : ∃ p, i ≤ p ∧ p < l.length ∧ l[p]! = x := by
  obtain ⟨p, hp, hx⟩ := List.mem_iff_getElem.1 h
  rw [List.length_drop] at hp
  refine ⟨i + p, by omega, by omega, ?_⟩
  rw [getElem!_pos l (i + p) (by omega), ← hx, List.getElem_drop]
theorem sym_split {A D : List Ev} (hA : Srt A) (hD : Srt D) {i j : Nat} (hi : i ≤ A.length) (hj : j ≤ D.length) (c1 : i = 0 ∨ j = D.length ∨ ltE D[j]! A[i - 1]! = false) (c2 : i = A.length ∨ j = 0 ∨ ltE D[j - 1]! A[i]! = true) : mergeE A D = mergeE (A.take i) (D.take j) ++ mergeE (A.drop i) (D.drop j) := by
  conv => lhs; rw [← List.take_append_drop i A, ← List.take_append_drop j D]
  refine merge_split (fun x hx y hy => ?_) (fun x hx y hy => ?_)
  · obtain ⟨p, h1, h2, rfl⟩ := mem_take_get hx
    obtain ⟨q, h3, h4, rfl⟩ := mem_drop_get hy
    rcases c1 with c | c | c
    · omega
    · omega
    · have e1 := srt_get hA (p := p) (q := i - 1) (by omega) (by omega)
      have e2 := srt_get hD h3 h4
      rw [ltE_not] at *; omega
  · obtain ⟨p, h1, h2, rfl⟩ := mem_drop_get hx
    obtain ⟨q, h3, h4, rfl⟩ := mem_take_get hy
    rcases c2 with c | c | c
    · omega
    · omega
    · have e1 := srt_get hA h1 h2
      have e2 := srt_get hD (p := q) (q := j - 1) (by omega) (by omega)
      rw [ltE_not] at e1 e2; rw [ltE_iff] at *; omega
theorem srt_lo {a : List Ev} {x z : Ev} (h : Srt (a ++ [x])) (hz : ltE x z = true) : ∀ y ∈ a ++ [x], ltE y z = true := srt_last2 h hz
theorem srt_hi {a : List Ev} {x z : Ev} (h : Srt (x :: a)) (hz : ltE x z = false) : ∀ y ∈ x :: a, ltE y z = false := srt_head h hz
set_option maxHeartbeats 4000000 in
theorem c117 : ∀ (n : Nat) (h : List Ob) (id st a m b : Nat) (P A D Q : List Ev) (hi : h[id]? = some (evRow (P ++ (A ++ (D ++ Q))) st)) (ha : a = P.length) (hm : m = P.length + A.length) (hb : b = P.length + A.length + D.length) (hA : 0 < A.length) (hD : 0 < D.length) (sA : Srt A) (sD : Srt D) (hl : P.length + A.length + D.length + Q.length < 1099511627776) (hn : A.length + D.length ≤ n),
    ACalls Tryz.prog 151 [.tl id st, i64 a, i64 m, i64 b, .fn (.func 96) [] []] h fun r h' => r = .tup [] ∧ h' = h.set id (evRow (P ++ (mergeE A D ++ Q)) st)
  | 0, _, _, _, _, _, _, _, _, _, _, _, _, _, _, _, _, _, _, _, hn => by omega
  | n + 1, h, id, st, a, m, b, P, A, D, Q, hi, ha, hm, hb, hA, hD, sA, sD, hl, hn => by
    have hg : ∀ o, (h.set id o)[id]? = some o := fun o => get_set_same hi
    have w1 : wr ((m : Int) - (a : Int)) = (A.length : Int) := by rw [wr_sub (by omega) (by omega)]; omega
    refine acalls_wp Tryz.f151 [] 220 rfl rfl rfl rfl rfl rfl (by decide) (⟨_, _, ⟨rfl, rfl⟩, resK_set hi rfl⟩) fun B => ?_
    simp only [go_sem, w1]
    refine ways (fun e => ?_) (fun e => ?_)
    · obtain ⟨x, rfl⟩ : ∃ x, A = [x] := by
        have : A.length = 1 := by
          have : (A.length : Int) = 1 := by simpa using e
          omega
        exact List.length_eq_one_iff.1 this
      simp only [go_sem]
      refine wp_loop_a (by decide) (fun n T h' => ∃ D1 D2 D3, D = D1 ++ (D2 ++ D3) ∧ (∀ y ∈ D1, ltE y x = true) ∧ (∀ y ∈ D3, ltE y x = false) ∧ h' = h ∧ T 0 = .tl id st ∧ T 1 = i64 a ∧ T 4 = .fn (.func 96) [] [] ∧ T 10 = i64 (m + D1.length : Nat) ∧ T 11 = i64 (m + D1.length + D2.length : Nat) ∧ n = D2.length) D.length
        ⟨[], D, [], by simp, by simp, by simp, rfl, by simp only [go_sem], by simp only [go_sem], by simp only [go_sem], by simp only [go_sem], by (simp only [go_sem, hb, hm, List.length_nil]), rfl⟩ ?_
      rintro n T h' ⟨D1, D2, D3, rfl, h1, h3, rfl, t0, t1, t4, t10, t11, rfl⟩
      simp only [go_sem, t10, t11]
      refine ways (fun e => ?_) (fun e => ?_)
      · have hlt := dlt e
        simp only [go_sem, t10, t11]
        have hmid := mid_at (i := m + D1.length) (j := m + D1.length + D2.length) (by simp at hl hm; omega)
        obtain ⟨E1, y, E2, rfl, hE⟩ : ∃ E1 y E2, D2 = E1 ++ y :: E2 ∧ E1.length = D2.length / 2 := by
          have hlt2 : D2.length / 2 < D2.length := by omega
          refine ⟨D2.take (D2.length / 2), D2[D2.length / 2], D2.drop (D2.length / 2 + 1), ?_, by simp; omega⟩
          rw [← List.drop_eq_getElem_cons hlt2, List.take_append_drop]
        have hl3 : P ++ ([x] ++ ((D1 ++ (E1 ++ y :: E2 ++ D3)) ++ Q)) = (P ++ ([x] ++ (D1 ++ E1))) ++ y :: (E2 ++ (D3 ++ Q)) := by simp
        obtain ⟨l, hl2⟩ : ∃ l, l = P ++ ([x] ++ ((D1 ++ (E1 ++ y :: E2 ++ D3)) ++ Q)) := ⟨_, rfl⟩
        rw [← hl2] at hi hl3
        simp only [List.length_append, List.length_cons, List.length_nil] at hb hl hm hE hlt hmid hn t10 t11
        have hlen : l.length = P.length + 1 + D1.length + E1.length + 1 + E2.length + D3.length + Q.length := by rw [hl3]; simp; omega
        have hx : (m + D1.length + (m + D1.length + (E1.length + (E2.length + 1)))) / 2 = m + D1.length + E1.length := by omega
        rw [hx] at hmid
        have ra : (l.map evC)[m + D1.length + E1.length]? = some (evC y) := row_get (by rw [hl3]; exact get_a (by simp; omega))
        have rb : (l.map evC)[a]? = some (evC x) := row_get (by rw [hl2, ha]; simp)
        have la := len_bound (a := m + D1.length + E1.length) (b := l.length) (by omega)
        have lb := len_bound (a := a) (b := l.length) (by omega)
        simp only [go_sem, hmid]
        refine wp_draw rfl [] 0 [(0, 0, []), (1, 0, []), (2, 0, []), (5, 0, []), (6, 0, []), (3, 0, []), (4, 0, []), (7, 0, []), (8, 0, []), (9, 0, []), (10, 0, [])] rfl (by decide) (by decide) ?_
        simp only [go_sem, t0, t1, t4, hi, ra, rb, la, lb, List.length_map, Int.toNat_natCast, Int.natCast_nonneg]
        refine call_by (c89 y x _) ?_
        rintro _ h2 ⟨rfl, e3⟩
        subst e3
        simp only [go_sem]
        have sM : Srt (E1 ++ y :: E2) := (srt_app.1 (srt_app.1 sD).2.1).1
        refine ways (fun e4 => ?_) (fun e4 => ?_)
        · have e4 : ltE y x = true := e4
          simp only [go_sem, t11]
          have q1 := t_succ (k := m + D1.length + E1.length) (m := m + (D1 ++ (E1 ++ [y])).length) (by omega) (by simp; omega)
          refine ⟨E2.length, by omega, D1 ++ (E1 ++ [y]), E2, D3, by simp, fun z hz => ?_, h3, t0, t1, t4, q1, ?_, rfl⟩
          · rcases List.mem_append.1 hz with hz | hz
            · exact h1 z hz
            · exact srt_lo (x := y) (a := E1) ((srt_app (a := E1 ++ [y]) (b := E2)).1 (by simpa using sM)).1 e4 z hz
          · exact i64_congr (by simp; omega)
        · have e4 : ltE y x = false := e4
          simp only [go_sem, t10]
          refine ⟨E1.length, by omega, D1, E1, y :: E2 ++ D3, by simp, h1, fun z hz => ?_, t0, t1, t4, rfl, rfl, rfl⟩
          · rcases List.mem_append.1 hz with hz | hz
            · exact srt_hi (x := y) (a := E2) (srt_app.1 sM).2.1 e4 z hz
            · exact h3 z hz
      · have hge := dnlt e
        have : D2 = [] := List.eq_nil_of_length_eq_zero (by omega)
        subst this
        rw [List.nil_append, merge_first h1 h3]
        simp only [List.length_append, List.length_cons, List.length_nil] at hb hl hm hn
        rw [List.nil_append] at hi
        simp only [go_sem, t1]
        refine wp_loop_a (by decide) (fun n T h2 => ∃ F1 F2, D1 = F1 ++ F2 ∧ h2 = h'.set id (evRow (P ++ (F1 ++ (x :: (F2 ++ (D3 ++ Q))))) st) ∧ T 0 = .tl id st ∧ T 1 = i64 a ∧ T 4 = .fn (.func 96) [] [] ∧ T 10 = i64 (m + D1.length : Nat) ∧ T 13 = i64 (a + F1.length : Nat) ∧ n = F2.length) D1.length
          ⟨[], D1, rfl, (set_self (by rw [hi]; simp)).symm, by simp only [go_sem, t0], by simp only [go_sem, t1], by simp only [go_sem, t4], by simp only [go_sem, t10], by simp only [go_sem, List.length_nil], rfl⟩ ?_
        rintro n T h2 ⟨F1, F2, rfl, rfl, t0, t1, t4, t10, t13, rfl⟩
        simp only [List.length_append, List.length_cons, List.length_nil] at hb hl t10
        have w2 : wr (((m + (F1.length + F2.length) : Nat) : Int) - 1) = ((a + (F1.length + F2.length) : Nat) : Int) := by rw [wr_pred (by omega) (by omega)]; omega
        simp only [go_sem, t10, t13, w2, List.length_append]
        refine ways (fun e => ?_) (fun e => ?_)
        · have hlt := dlt e
          cases F2 with
          | nil => simp at hlt
          | cons y F2 =>
          simp only [List.length_append, List.length_cons, List.length_nil] at hb hl
          obtain ⟨l, hl2⟩ : ∃ l, l = P ++ (F1 ++ (x :: (y :: F2 ++ (D3 ++ Q)))) := ⟨_, rfl⟩
          have hl3 : l = (P ++ F1) ++ x :: ([] ++ y :: (F2 ++ (D3 ++ Q))) := by rw [hl2]; simp
          have hlen : l.length = P.length + F1.length + 2 + F2.length + D3.length + Q.length := by rw [hl3]; simp; omega
          have i1 : a + F1.length = (P ++ F1).length := by simp; omega
          have i2 : a + F1.length + 1 = (P ++ F1).length + 1 + ([] : List Ev).length := by simp; omega
          have ra : (l.map evC)[a + F1.length]? = some (evC x) := row_get (by rw [hl3]; exact get_a i1)
          have rb : (l.map evC)[a + F1.length + 1]? = some (evC y) := row_get (by
            rw [hl3, show (P ++ F1) ++ x :: ([] ++ y :: (F2 ++ (D3 ++ Q))) = ((P ++ F1) ++ [x]) ++ y :: (F2 ++ (D3 ++ Q)) by simp]
            exact get_a (by rw [i2]; simp; omega))
          have la := len_bound (a := a + F1.length) (b := l.length) (by omega)
          have lb := len_bound (a := a + F1.length + 1) (b := l.length) (by omega)
          have wb : wr (((a + F1.length : Nat) : Int) + 1) = ((a + F1.length + 1 : Nat) : Int) := wr_succ (by omega)
          obtain ⟨q, q1, q2⟩ := row_set (l := l) (i := a + F1.length) (j := a + F1.length + 1) y (by omega)
          have sw := swap_rows hl3 i1 i2
          rw [← hl2]
          simp only [go_sem]
          refine wp_draw rfl [] 0 [(0, 0, []), (1, 0, []), (2, 0, []), (3, 0, []), (4, 0, []), (5, 0, []), (6, 0, []), (7, 0, []), (10, 0, []), (11, 0, []), (8, 0, []), (9, 0, []), (12, 0, []), (13, 0, []), (14, 0, []), (15, 0, []), (16, 0, []), (17, 0, [])] rfl (by decide) (by decide) ?_
          simp only [go_sem, t13, t0, hg, ra, rb, q1, q2, la, lb, wb, List.length_map, Int.toNat_natCast, Int.natCast_nonneg, List.set_set]
          refine ⟨F2.length, by simp, F1 ++ [y], F2, by simp, ?_, t1, t4, t10, ?_, rfl⟩
          · rw [sw]; exact congrArg (fun l => h'.set id (evRow l st)) (by simp)
          · exact i64_congr (by simp; omega)
        · have hge := dnlt e
          have : F2 = [] := List.eq_nil_of_length_eq_zero (by simp at hge; omega)
          subst this
          simp only [go_sem]
          exact ⟨.tup [], by simp only [go_sem], .inl ⟨rfl, by simp⟩⟩
    · have w2 : wr ((b : Int) - (m : Int)) = (D.length : Int) := by rw [wr_sub (by omega) (by omega)]; omega
      simp only [go_sem, w2]
      have hA2 : 2 ≤ A.length := by
        have : ¬ (A.length : Int) = 1 := by simpa using e
        omega
      refine ways (fun e => ?_) (fun e => ?_)
      · obtain ⟨x, rfl⟩ : ∃ x, D = [x] := by
          have : D.length = 1 := by
            have : (D.length : Int) = 1 := by simpa using e
            omega
          exact List.length_eq_one_iff.1 this
        simp only [go_sem]
        simp only [List.length_append, List.length_cons, List.length_nil] at hb hl hm hn
        refine wp_loop_a (by decide) (fun n T h' => ∃ D1 D2 D3, A = D1 ++ (D2 ++ D3) ∧ (∀ y ∈ D1, ltE x y = false) ∧ (∀ y ∈ D3, ltE x y = true) ∧ h' = h ∧ T 0 = .tl id st ∧ T 2 = i64 m ∧ T 4 = .fn (.func 96) [] [] ∧ T 14 = i64 (a + D1.length : Nat) ∧ T 15 = i64 (a + D1.length + D2.length : Nat) ∧ n = D2.length) A.length
          ⟨[], A, [], by simp, by simp, by simp, rfl, by simp only [go_sem], by simp only [go_sem], by simp only [go_sem], by simp only [go_sem], by (simp only [go_sem, hb, hm, ha, List.length_nil]), rfl⟩ ?_
        rintro n T h' ⟨D1, D2, D3, rfl, h1, h3, rfl, t0, t2, t4, t14, t15, rfl⟩
        simp only [go_sem, t14, t15]
        simp only [List.length_append, List.length_cons, List.length_nil] at hb hl hm hn
        refine ways (fun e => ?_) (fun e => ?_)
        · have hlt := dlt e
          have hmid := mid_at (i := a + D1.length) (j := a + D1.length + D2.length) (by omega)
          obtain ⟨E1, y, E2, rfl, hE⟩ : ∃ E1 y E2, D2 = E1 ++ y :: E2 ∧ E1.length = D2.length / 2 := by
            have hlt2 : D2.length / 2 < D2.length := by omega
            refine ⟨D2.take (D2.length / 2), D2[D2.length / 2], D2.drop (D2.length / 2 + 1), ?_, by simp; omega⟩
            rw [← List.drop_eq_getElem_cons hlt2, List.take_append_drop]
          have hl3 : P ++ ((D1 ++ (E1 ++ y :: E2 ++ D3)) ++ ([x] ++ Q)) = (P ++ (D1 ++ E1)) ++ y :: (E2 ++ (D3 ++ ([x] ++ Q))) := by simp
          obtain ⟨l, hl2⟩ : ∃ l, l = P ++ ((D1 ++ (E1 ++ y :: E2 ++ D3)) ++ ([x] ++ Q)) := ⟨_, rfl⟩
          rw [← hl2] at hi hl3
          simp only [List.length_append, List.length_cons, List.length_nil] at hb hl hm hE hlt hmid hn t14 t15
          have hlen : l.length = P.length + D1.length + E1.length + 1 + E2.length + D3.length + 1 + Q.length := by rw [hl3]; simp; omega
          have hx : (a + D1.length + (a + D1.length + (E1.length + (E2.length + 1)))) / 2 = a + D1.length + E1.length := by omega
          rw [hx] at hmid
          have ra : (l.map evC)[a + D1.length + E1.length]? = some (evC y) := row_get (by rw [hl3]; exact get_a (by simp; omega))
          have rb : (l.map evC)[m]? = some (evC x) := row_get (by
            rw [hl2, show P ++ ((D1 ++ (E1 ++ y :: E2 ++ D3)) ++ ([x] ++ Q)) = (P ++ (D1 ++ (E1 ++ y :: E2 ++ D3))) ++ x :: Q by simp]
            exact get_a (by rw [hm]; simp; omega))
          have la := len_bound (a := a + D1.length + E1.length) (b := l.length) (by omega)
          have lb := len_bound (a := m) (b := l.length) (by omega)
          simp only [go_sem, t14, t15, hmid]
          refine wp_draw rfl [] 0 [(0, 0, []), (1, 0, []), (2, 0, []), (5, 0, []), (6, 0, []), (3, 0, []), (4, 0, []), (7, 0, []), (8, 0, []), (9, 0, []), (10, 0, []), (11, 0, [])] rfl (by decide) (by decide) ?_
          simp only [go_sem, t0, t2, t4, hi, ra, rb, la, lb, List.length_map, Int.toNat_natCast, Int.natCast_nonneg]
          refine call_by (c89 x y _) ?_
          rintro _ h2 ⟨rfl, e3⟩
          subst e3
          simp only [go_sem]
          have sM : Srt (E1 ++ y :: E2) := (srt_app.1 (srt_app.1 sA).2.1).1
          refine ways (fun e4 => ?_) (fun e4 => ?_)
          · have e4 : ltE x y = false := by
              have : (!ltE x y) = true := e4
              simpa using this
            simp only [go_sem, t15]
            have q1 := t_succ (k := a + D1.length + E1.length) (m := a + (D1 ++ (E1 ++ [y])).length) (by omega) (by simp; omega)
            refine ⟨E2.length, by omega, D1 ++ (E1 ++ [y]), E2, D3, by simp, fun z hz => ?_, h3, t0, t2, t4, q1, ?_, rfl⟩
            · rcases List.mem_append.1 hz with hz | hz
              · exact h1 z hz
              · exact srt_last (x := y) (a := E1) ((srt_app (a := E1 ++ [y]) (b := E2)).1 (by simpa using sM)).1 e4 z hz
            · exact i64_congr (by simp; omega)
          · have e4 : ltE x y = true := by
              have : (!ltE x y) = false := e4
              simpa using this
            simp only [go_sem, t14]
            refine ⟨E1.length, by omega, D1, E1, y :: E2 ++ D3, by simp, h1, fun z hz => ?_, t0, t2, t4, rfl, rfl, rfl⟩
            · rcases List.mem_append.1 hz with hz | hz
              · exact srt_head2 (x := y) (a := E2) (srt_app.1 sM).2.1 e4 z hz
              · exact h3 z hz
        · have hge := dnlt e
          have : D2 = [] := List.eq_nil_of_length_eq_zero (by omega)
          subst this
          rw [List.nil_append, merge_last h1 h3]
          simp only [List.length_append, List.length_cons, List.length_nil] at hb hl hm hn
          rw [List.nil_append] at hi
          simp only [go_sem, t2]
          refine wp_loop_a (by decide) (fun n T h2 => ∃ F1 F2, D3 = F1 ++ F2 ∧ h2 = h'.set id (evRow (P ++ (D1 ++ (F1 ++ (x :: (F2 ++ Q))))) st) ∧ T 0 = .tl id st ∧ T 2 = i64 m ∧ T 4 = .fn (.func 96) [] [] ∧ T 14 = i64 (a + D1.length : Nat) ∧ T 17 = i64 (a + D1.length + F1.length : Nat) ∧ n = F1.length) D3.length
            ⟨D3, [], by simp, (set_self (by rw [hi]; simp)).symm, by simp only [go_sem, t0], by simp only [go_sem, t2], by simp only [go_sem, t4], by simp only [go_sem, t14], i64_congr (by omega), rfl⟩ ?_
          rintro n T h2 ⟨F1, F2, rfl, rfl, t0, t2, t4, t14, t17, rfl⟩
          simp only [List.length_append, List.length_cons, List.length_nil] at hb hl t14
          simp only [go_sem, t14, t17]
          refine ways (fun e => ?_) (fun e => ?_)
          · have hlt := dlt e
            rcases List.eq_nil_or_concat F1 with rfl | ⟨F1, y, rfl⟩
            · simp at hlt
            rw [List.concat_eq_append] at *
            simp only [List.length_append, List.length_cons, List.length_nil, Nat.zero_add] at hb hl t17
            obtain ⟨l, hl2⟩ : ∃ l, l = P ++ (D1 ++ (F1 ++ [y] ++ (x :: (F2 ++ Q)))) := ⟨_, rfl⟩
            have hl3 : l = (P ++ (D1 ++ F1)) ++ y :: ([] ++ x :: (F2 ++ Q)) := by rw [hl2]; simp
            have hlen : l.length = P.length + D1.length + F1.length + 2 + F2.length + Q.length := by rw [hl3]; simp; omega
            have i1 : a + D1.length + F1.length = (P ++ (D1 ++ F1)).length := by simp; omega
            have i2 : a + D1.length + (F1.length + 1) = (P ++ (D1 ++ F1)).length + 1 + ([] : List Ev).length := by simp; omega
            have ra : (l.map evC)[a + D1.length + F1.length]? = some (evC y) := row_get (by rw [hl3]; exact get_a i1)
            have rb : (l.map evC)[a + D1.length + (F1.length + 1)]? = some (evC x) := row_get (by
              rw [hl3, show (P ++ (D1 ++ F1)) ++ y :: ([] ++ x :: (F2 ++ Q)) = ((P ++ (D1 ++ F1)) ++ [y]) ++ x :: (F2 ++ Q) by simp]
              exact get_a (by rw [i2]; simp; omega))
            have la := len_bound (a := a + D1.length + F1.length) (b := l.length) (by omega)
            have lb := len_bound (a := a + D1.length + (F1.length + 1)) (b := l.length) (by omega)
            have wb : wr (((a + D1.length + (F1.length + 1) : Nat) : Int) - 1) = ((a + D1.length + F1.length : Nat) : Int) := by
              rw [wr_pred (by omega) (by omega)]; omega
            obtain ⟨q, q1, q2⟩ := row_set (l := l) (i := a + D1.length + (F1.length + 1)) (j := a + D1.length + F1.length) y (by omega)
            have sw := swap_rows2 hl3 i1 i2
            rw [← hl2]
            simp only [go_sem]
            refine wp_draw rfl [] 0 [(0, 0, []), (1, 0, []), (2, 0, []), (3, 0, []), (4, 0, []), (5, 0, []), (6, 0, []), (7, 0, []), (10, 0, []), (11, 0, []), (8, 0, []), (9, 0, []), (12, 0, []), (13, 0, []), (14, 0, []), (15, 0, []), (16, 0, []), (17, 0, [])] rfl (by decide) (by decide) ?_
            simp only [go_sem, t17, t0, hg, ra, rb, q1, q2, la, lb, wb, List.length_map, Int.toNat_natCast, Int.natCast_nonneg, List.set_set]
            refine ⟨F1.length, by simp, F1, y :: F2, by simp, ?_, t2, t4, ?_, rfl, rfl⟩
            · rw [sw]; exact congrArg (fun l => h'.set id (evRow l st)) (by simp)
            · exact t14.trans (i64_congr (by simp))
          · have hge := dnlt e
            have : F1 = [] := List.eq_nil_of_length_eq_zero (by omega)
            subst this
            simp only [go_sem]
            exact ⟨.tup [], by simp only [go_sem], .inl ⟨rfl, by simp⟩⟩
      · simp only [wpC_skip, thenA_n]
        have hD2 : 2 ≤ D.length := by
          have : ¬ (D.length : Int) = 1 := by simpa using e
          omega
        obtain ⟨c, hc⟩ : ∃ c, c = (a + b) / 2 := ⟨_, rfl⟩
        have hmid := mid_at (i := a) (j := b) (by omega)
        rw [← hc] at hmid
        have w3 : wr ((c : Int) + (m : Int)) = ((c + m : Nat) : Int) := wr_add (by omega)
        rw [wpC_assoc, wpC_assoc, wpC_assoc]
        refine wpC_cut (fun T h' => ∃ lo up : Nat, h' = h ∧ T 0 = .tl id st ∧ T 1 = i64 a ∧ T 2 = i64 m ∧ T 3 = i64 b ∧ T 4 = .fn (.func 96) [] [] ∧ T 18 = i64 c ∧ T 19 = i64 (c + m : Nat) ∧ T 20 = i64 lo ∧ T 21 = i64 up ∧ a ≤ lo ∧ lo ≤ up ∧ up ≤ m ∧ c + m ≤ b + lo ∧ up ≤ c ∧ (lo = a ∨ c + m = b + lo) ∧ (up = m ∨ up = c)) ?_ ?_
        · simp only [go_sem, hmid, w3]
          refine ways (fun e => ?_) (fun e => ?_)
          · have hlt : c < m := dlt e
            have w4 : wr (((c + m : Nat) : Int) - (b : Int)) = ((c + m - b : Nat) : Int) := wr_sub (by omega) (by omega)
            simp only [go_sem, w4]
            exact ⟨c + m - b, c, rfl, rfl, by omega, by omega, by omega, by omega, by omega, .inr (by omega), .inr rfl⟩
          · have hge : m ≤ c := dnlt e
            simp only [go_sem]
            exact ⟨a, m, rfl, rfl, by omega, by omega, by omega, by omega, by omega, .inl rfl, .inl rfl⟩
        rintro T h' ⟨lo, up, rfl, t0, t1, t2, t3, t4, t18, t19, t20, t21, b1, b2, b3, b4, b5, b6, b7⟩
        rw [wpC_assoc]
        refine wpC_cut (fun T h2 => ∃ s : Nat, h2 = h' ∧ T 0 = .tl id st ∧ T 1 = i64 a ∧ T 2 = i64 m ∧ T 3 = i64 b ∧ T 4 = .fn (.func 96) [] [] ∧ T 18 = i64 c ∧ T 19 = i64 (c + m : Nat) ∧ T 20 = i64 s ∧ lo ≤ s ∧ s ≤ up ∧ (s = lo ∨ ltE D[c - s]! A[s - a - 1]! = false) ∧ (s = up ∨ ltE D[c - s - 1]! A[s - a]! = true)) ?_ ?_
        · have w4 : wr (((c + m : Nat) : Int) - 1) = ((c + m - 1 : Nat) : Int) := wr_pred (by omega) (by omega)
          simp only [go_sem, t19, w4]
          refine wp_loop_a (by decide) (fun k T h2 => ∃ s r : Nat, h2 = h' ∧ T 0 = .tl id st ∧ T 1 = i64 a ∧ T 2 = i64 m ∧ T 3 = i64 b ∧ T 4 = .fn (.func 96) [] [] ∧ T 18 = i64 c ∧ T 19 = i64 (c + m : Nat) ∧ T 22 = i64 (c + m - 1 : Nat) ∧ T 20 = i64 s ∧ T 21 = i64 r ∧ lo ≤ s ∧ s ≤ r ∧ r ≤ up ∧ (s = lo ∨ ltE D[c - s]! A[s - a - 1]! = false) ∧ (r = up ∨ ltE D[c - r - 1]! A[r - a]! = true) ∧ k = r - s) (up - lo)
            ⟨lo, up, rfl, by simp only [go_sem, t0], by simp only [go_sem, t1], by simp only [go_sem, t2], by simp only [go_sem, t3], by simp only [go_sem, t4], by simp only [go_sem, t18], by simp only [go_sem, t19], by simp only [go_sem], by simp only [go_sem, t20], by simp only [go_sem, t21], by omega, by omega, by omega, .inl rfl, .inl rfl, rfl⟩ ?_
          clear t0 t1 t2 t3 t4 t18 t19 t20 t21
          rintro n T h2 ⟨s, r, rfl, t0, t1, t2, t3, t4, t18, t19, t22, t20, t21, d1, d2, d3, d4, d5, rfl⟩
          simp only [go_sem, t20, t21]
          refine ways (fun e => ?_) (fun e => ?_)
          · have hlt : s < r := dlt e
            have hmid2 := mid_at (i := s) (j := r) (by omega)
            obtain ⟨x, hx⟩ : ∃ x, x = (s + r) / 2 := ⟨_, rfl⟩
            rw [← hx] at hmid2
            have w5 : wr (((c + m - 1 : Nat) : Int) - (x : Int)) = ((c + m - 1 - x : Nat) : Int) := wr_sub (by omega) (by omega)
            obtain ⟨l, hl2⟩ : ∃ l, l = P ++ (A ++ (D ++ Q)) := ⟨_, rfl⟩
            have hlen : l.length = P.length + A.length + D.length + Q.length := by rw [hl2]; simp; omega
            have ra : (l.map evC)[c + m - 1 - x]? = some (evC D[c - x - 1]!) := row_get (by
              rw [hl2, get_inD (by omega) (by omega), show c + m - 1 - x - (P.length + A.length) = c - x - 1 by omega])
            have rb : (l.map evC)[x]? = some (evC A[x - a]!) := row_get (by
              rw [hl2, get_inA (by omega) (by omega), ha])
            have la := len_bound (a := c + m - 1 - x) (b := l.length) (by omega)
            have lb := len_bound (a := x) (b := l.length) (by omega)
            rw [← hl2] at hi
            simp only [go_sem, t20, t21, hmid2]
            refine wp_draw rfl [] 0 [(0, 0, []), (1, 0, []), (2, 0, []), (3, 0, []), (4, 0, []), (7, 0, []), (8, 0, []), (5, 0, []), (6, 0, []), (9, 0, []), (10, 0, []), (11, 0, []), (12, 0, []), (13, 0, [])] rfl (by decide) (by decide) ?_
            simp only [go_sem, t0, t4, t22, hi, w5, ra, rb, la, lb, List.length_map, Int.toNat_natCast, Int.natCast_nonneg]
            refine call_by (c89 _ _ _) ?_
            rintro _ h3 ⟨rfl, e3⟩
            subst e3
            simp only [go_sem]
            refine ways (fun e4 => ?_) (fun e4 => ?_)
            · have e4 : ltE D[c - x - 1]! A[x - a]! = false := by
                have : (!ltE D[c - x - 1]! A[x - a]!) = true := e4
                simpa using this
              have w6 : wr ((x : Int) + 1) = ((x + 1 : Nat) : Int) := wr_succ (by omega)
              simp only [go_sem, w6, t21]
              refine ⟨r - (x + 1), by omega, x + 1, r, t0, t1, t2, t3, t4, t18, t19, t22, rfl, rfl, by omega, by omega, by omega, .inr ?_, d5, rfl⟩
              rw [show c - (x + 1) = c - x - 1 by omega, show x + 1 - a - 1 = x - a by omega]
              exact e4
            · have e4 : ltE D[c - x - 1]! A[x - a]! = true := by
                have : (!ltE D[c - x - 1]! A[x - a]!) = false := e4
                simpa using this
              simp only [go_sem, t20]
              exact ⟨x - s, by omega, s, x, t0, t1, t2, t3, t4, t18, t19, t22, rfl, rfl, by omega, by omega, by omega, d4, .inr e4, rfl⟩
          · have hge : r ≤ s := dnlt e
            have : r = s := by omega
            subst this
            simp only [go_sem]
            exact ⟨r, t0, t1, t2, t3, t4, t18, t19, t20, by omega, by omega, d4, d5⟩
        clear t0 t1 t2 t3 t4 t18 t19 t20 t21
        rintro T h2 ⟨s, rfl, t0, t1, t2, t3, t4, t18, t19, t20, d1, d2, d4, d5⟩
        have hsp := sym_split sA sD (i := s - a) (j := c - s) (by omega) (by omega)
          (by rcases d4 with d | d
              · omega
              · exact .inr (.inr d))
          (by rcases d5 with d | d
              · omega
              · exact .inr (.inr d))
        obtain ⟨A1, A2, D1, D2, rfl, rfl, hA1, hD1, hsp⟩ : ∃ A1 A2 D1 D2, A = A1 ++ A2 ∧ D = D1 ++ D2 ∧ A1.length = s - a ∧ D1.length = c - s ∧ mergeE A D = mergeE A1 D1 ++ mergeE A2 D2 :=
          ⟨_, _, _, _, (List.take_append_drop _ _).symm, (List.take_append_drop _ _).symm, by simp; omega, by simp; omega, hsp⟩
        rw [hsp]
        simp only [List.length_append] at hb hl hm hn
        have sA1 := (srt_app.1 sA).1
        have sA2 := (srt_app.1 sA).2.1
        have sD1 := (srt_app.1 sD).1
        have sD2 := (srt_app.1 sD).2.1
        rw [wpC_assoc]
        refine wpC_cut (fun T h3 => h3 = h2.set id (evRow (P ++ (A1 ++ (D1 ++ (A2 ++ (D2 ++ Q))))) st) ∧ T 0 = .tl id st ∧ T 1 = i64 a ∧ T 3 = i64 b ∧ T 4 = .fn (.func 96) [] [] ∧ T 18 = i64 c ∧ T 20 = i64 s ∧ T 24 = i64 (c + m - s : Nat)) ?_ ?_
        · have w7 : wr (((c + m : Nat) : Int) - (s : Int)) = ((c + m - s : Nat) : Int) := wr_sub (by omega) (by omega)
          have hl1 : A2.length = 0 → D1.length = 0 ∨ D1.length ≠ 0 := fun _ => by omega
          have hsame : A2 = [] ∨ D1 = [] → h2 = h2.set id (evRow (P ++ (A1 ++ (D1 ++ (A2 ++ (D2 ++ Q))))) st) := by
            rintro (rfl | rfl) <;> exact (set_self (by rw [hi]; simp)).symm
          rcases Nat.lt_or_ge s m with hlt | hge
          · have f1 : decide ((s : Int) < (m : Int)) = true := decide_eq_true (by omega)
            rcases Nat.lt_or_ge m (c + m - s) with hlt2 | hge
            · have f2 : decide ((m : Int) < ((c + m - s : Nat) : Int)) = true := decide_eq_true (by omega)
              simp only [go_sem, t0, t19, t20, t2, t4, w7, f1, f2, bq_t]
              refine call_by (c129 _ id st _ _ _ (P ++ A1) A2 D1 (D2 ++ Q) _ (by rw [hi]; simp) (by simp; omega) (by simp; omega) (by simp; omega) (by omega) (by omega) (by simp; omega)) ?_
              rintro _ h3 ⟨rfl, e3⟩
              subst e3
              simp only [go_sem]
              exact ⟨t0, t1, t3, t4, t18, t20⟩
            · have f2 : decide ((m : Int) < ((c + m - s : Nat) : Int)) = false := decide_eq_false (by omega)
              simp only [go_sem, t0, t19, t20, t2, t4, w7, f1, f2, bq_t]
              exact ⟨hsame (.inr (List.eq_nil_of_length_eq_zero (by omega))), t1, t3, t18⟩
          · have f1 : decide ((s : Int) < (m : Int)) = false := decide_eq_false (by omega)
            simp only [go_sem, t0, t19, t20, t2, t4, w7, f1, bq_t]
            exact ⟨hsame (.inl (List.eq_nil_of_length_eq_zero (by omega))), t1, t3, t18⟩
        clear t0 t1 t2 t3 t4 t18 t19 t20
        rintro T h3 ⟨rfl, t0, t1, t3, t4, t18, t20, t24⟩
        refine wpC_cut (fun T h3 => h3 = h2.set id (evRow (P ++ (mergeE A1 D1 ++ (A2 ++ (D2 ++ Q)))) st) ∧ T 0 = .tl id st ∧ T 3 = i64 b ∧ T 4 = .fn (.func 96) [] [] ∧ T 18 = i64 c ∧ T 24 = i64 (c + m - s : Nat)) ?_ ?_
        · have hsame : A1 = [] ∨ D1 = [] → P ++ (A1 ++ (D1 ++ (A2 ++ (D2 ++ Q)))) = P ++ (mergeE A1 D1 ++ (A2 ++ (D2 ++ Q))) := by
            rintro (rfl | rfl)
            · rw [mergeE_nil]; rfl
            · rw [mergeE_nil2]; rfl
          rcases Nat.lt_or_ge a s with hlt | hge
          · have f1 : decide ((a : Int) < (s : Int)) = true := decide_eq_true (by omega)
            rcases Nat.lt_or_ge s c with hlt2 | hge
            · have f2 : decide ((s : Int) < (c : Int)) = true := decide_eq_true (by omega)
              simp only [go_sem, t0, t1, t4, t18, t20, f1, f2, bq_t]
              refine call_by (c117 n _ id st _ _ _ P A1 D1 (A2 ++ (D2 ++ Q)) (hg _) ha (by omega) (by omega) (by omega) (by omega) sA1 sD1 (by simp; omega) (by omega)) ?_
              rintro _ h3 ⟨rfl, e3⟩
              subst e3
              simp only [go_sem, List.set_set]
              exact ⟨t0, t3, t4, t18, t24⟩
            · have f2 : decide ((s : Int) < (c : Int)) = false := decide_eq_false (by omega)
              simp only [go_sem, t0, t1, t4, t18, t20, f1, f2, bq_t]
              exact ⟨by rw [hsame (.inr (List.eq_nil_of_length_eq_zero (by omega)))], t3, t24⟩
          · have f1 : decide ((a : Int) < (s : Int)) = false := decide_eq_false (by omega)
            simp only [go_sem, t0, t1, t4, t18, t20, f1, bq_t]
            exact ⟨by rw [hsame (.inl (List.eq_nil_of_length_eq_zero (by omega)))], t3, t24⟩
        clear t0 t1 t3 t4 t18 t20 t24
        rintro T h3 ⟨rfl, t0, t3, t4, t18, t24⟩
        have hml : (mergeE A1 D1).length = A1.length + D1.length := merge_len _ _
        have hsame : A2 = [] ∨ D2 = [] → P ++ (mergeE A1 D1 ++ (A2 ++ (D2 ++ Q))) = P ++ (mergeE A1 D1 ++ mergeE A2 D2 ++ Q) := by
          rintro (rfl | rfl)
          · rw [mergeE_nil]; simp
          · rw [mergeE_nil2]; simp
        rcases Nat.lt_or_ge c (c + m - s) with hlt | hge
        · have f1 : decide ((c : Int) < ((c + m - s : Nat) : Int)) = true := decide_eq_true (by omega)
          rcases Nat.lt_or_ge (c + m - s) b with hlt2 | hge
          · have f2 : decide (((c + m - s : Nat) : Int) < (b : Int)) = true := decide_eq_true (by omega)
            simp only [go_sem, t0, t3, t4, t18, t24, f1, f2, bq_t]
            refine call_by (c117 n _ id st _ _ _ (P ++ mergeE A1 D1) A2 D2 Q (by rw [hg]; simp) (by simp [hml]; omega) (by simp [hml]; omega) (by simp [hml]; omega) (by omega) (by omega) sA2 sD2 (by simp [hml]; omega) (by omega)) ?_
            rintro _ h3 ⟨rfl, e3⟩
            subst e3
            simp only [go_sem, List.set_set]
            exact ⟨.tup [], by simp only [go_sem], .inl ⟨rfl, by simp⟩⟩
          · have f2 : decide (((c + m - s : Nat) : Int) < (b : Int)) = false := decide_eq_false (by omega)
            simp only [go_sem, t0, t3, t4, t18, t24, f1, f2, bq_t]
            exact ⟨.tup [], by simp only [go_sem], .inl ⟨rfl, by rw [hsame (.inr (List.eq_nil_of_length_eq_zero (by omega)))]; simp⟩⟩
        · have f1 : decide ((c : Int) < ((c + m - s : Nat) : Int)) = false := decide_eq_false (by omega)
          simp only [go_sem, t0, t3, t4, t18, t24, f1, bq_t]
          exact ⟨.tup [], by simp only [go_sem], .inl ⟨rfl, by rw [hsame (.inl (List.eq_nil_of_length_eq_zero (by omega)))]; simp⟩⟩
end Go.Proofs.YtpdghiplnlhnfaaGreat.Ax
