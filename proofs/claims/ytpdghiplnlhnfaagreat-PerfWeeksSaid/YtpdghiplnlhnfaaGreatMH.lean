/-
  Joined: Ev2. Nothing is proved here of a statement.
-/
import Derived.Test.YtpdghiplnlhnfaaGreatMG
namespace Go.Proofs.YtpdghiplnlhnfaaGreat.Ax
set_option linter.unusedSimpArgs false
set_option linter.unusedVariables false
open Go Go.Proofs
set_option maxRecDepth 100000
set_option linter.unusedSimpArgs false
set_option linter.unusedVariables false
def fieldsOk (e : Ev) : Bool := if e.kind = 3 then !decide (e.from_ < 0) && (!decide (e.to_ < 0) && (!decide (e.element < 0) && (!decide (e.units < 0) && (!decide (e.class_ < 0) && (!decide (e.gear < 0) && e.code == 0)))))
  else if e.kind = 4 then !decide (e.code < 0) && (e.from_ == 0 && (e.to_ == 0 && (e.element == 0 && (e.units == 0 && (e.class_ == 0 && e.gear == 0)))))
  else e.from_ == 0 && (e.to_ == 0 && (e.element == 0 && (e.units == 0 && (e.class_ == 0 && (e.gear == 0 && e.code == 0)))))
def fairOk (e : Ev) : Bool := !(!kindOk e.kind) && (!(!leastOk e.id 100000) && (!decide (e.worker < 0) && (!(!leastOk e.at_ 31449599) && fieldsOk e)))

theorem c39_3 (e : Ev) (hk : e.kind = 3) : Pure Tryz.prog 98 [evV e] (bl (fairOk e)) := fun h => by
  refine acalls_wp Tryz.f98 [.tmp 2] 54 rfl rfl rfl rfl rfl rfl (by decide) (⟨_, _, ⟨rfl, rfl⟩, .refl⟩) fun B => ?_
  simp only [go_sem]
  refine call_by (c71 _ _ e (by simp only [go_sem])) ?_
  rintro _ h1 ⟨L, x, e1, rfl, hx⟩
  subst e1
  have hr : ∀ o, rowsOf (h ++ (o :: L)) x = some (ownRows h.length e.kind) := fun o => by
    have := (hx (h ++ [o]) (by simp)).rows
    rw [List.append_assoc] at this
    exact this
  have he : ∀ o, ownRows h.length e.kind ≠ [] → eOf (h ++ (o :: L)) x = some 1 := fun o hn => by
    have := (hx (h ++ [o]) (by simp)).ee hn
    rw [List.append_assoc] at this
    exact this
  simp only [ownRows, hk, if_true, if_false, ne_eq, reduceCtorEq, not_false_eq_true, true_implies] at hr he
  simp only [go_sem]
  refine ways (fun g0 => ?_) (fun g0 => ?_)
  rotate_left
  · have g0 := beq_ff g0
    simp only [go_sem, g0]
    (first | refine endA_pure0 ?_ | refine endA_pure ?_ (by rfl)) <;> (simp only [go_sem, fairOk, g0] <;> try rfl)
  have g0 := beq_ft g0
  simp only [go_sem, g0]
  refine call_by (c72 e.id 100000 _) ?_
  rintro _ h1 ⟨rfl, e1⟩
  subst e1
  simp only [go_sem, g0]
  refine ways (fun g1 => ?_) (fun g1 => ?_)
  rotate_left
  · have g1 := beq_ff g1
    simp only [go_sem, g0, g1]
    (first | refine endA_pure0 ?_ | refine endA_pure ?_ (by rfl)) <;> (simp only [go_sem, fairOk, g0, g1] <;> try rfl)
  have g1 := beq_ft g1
  simp only [go_sem, g0, g1]
  refine ways (fun g2 => ?_) (fun g2 => ?_)
  rotate_left
  · have g2 := beq_ff g2
    simp only [go_sem, g0, g1, g2]
    (first | refine endA_pure0 ?_ | refine endA_pure ?_ (by rfl)) <;> (simp only [go_sem, fairOk, g0, g1, g2] <;> try rfl)
  have g2 := beq_ft g2
  simp only [go_sem, g0, g1, g2]
  refine call_by (c72 e.at_ 31449599 _) ?_
  rintro _ h1 ⟨rfl, e1⟩
  subst e1
  simp only [go_sem, g0, g1, g2]
  refine ways (fun g3 => ?_) (fun g3 => ?_)
  · simp only [go_sem]
    (first | refine endA_pure0 ?_ | refine endA_pure ?_ (by rfl)) <;> (simp only [go_sem, fairOk, g0, g1, g2, g3] <;> try rfl)
  simp only [go_sem, hr]
  refine wp_unroll 7 (rnd_succ (by decide) ?_)
  simp only [go_sem, hr, he]
  refine ways (fun f0 => ?_) (fun f0 => ?_)
  · simp only [go_sem]
    (first | refine endA_pure0 ?_ | refine endA_pure ?_ (by rfl)) <;> (simp only [go_sem, fairOk, fieldsOk, hk, g0, g1, g2, g3, f0] <;> try rfl)
  simp only [go_sem]
  refine rnd_succ (by decide) ?_
  simp only [go_sem, hr, he]
  refine ways (fun f1 => ?_) (fun f1 => ?_)
  · simp only [go_sem]
    (first | refine endA_pure0 ?_ | refine endA_pure ?_ (by rfl)) <;> (simp only [go_sem, fairOk, fieldsOk, hk, g0, g1, g2, g3, f0, f1] <;> try rfl)
  simp only [go_sem]
  refine rnd_succ (by decide) ?_
  simp only [go_sem, hr, he]
  refine ways (fun f2 => ?_) (fun f2 => ?_)
  · simp only [go_sem]
    (first | refine endA_pure0 ?_ | refine endA_pure ?_ (by rfl)) <;> (simp only [go_sem, fairOk, fieldsOk, hk, g0, g1, g2, g3, f0, f1, f2] <;> try rfl)
  simp only [go_sem]
  refine rnd_succ (by decide) ?_
  simp only [go_sem, hr, he]
  refine ways (fun f3 => ?_) (fun f3 => ?_)
  · simp only [go_sem]
    (first | refine endA_pure0 ?_ | refine endA_pure ?_ (by rfl)) <;> (simp only [go_sem, fairOk, fieldsOk, hk, g0, g1, g2, g3, f0, f1, f2, f3] <;> try rfl)
  simp only [go_sem]
  refine rnd_succ (by decide) ?_
  simp only [go_sem, hr, he]
  refine ways (fun f4 => ?_) (fun f4 => ?_)
  · simp only [go_sem]
    (first | refine endA_pure0 ?_ | refine endA_pure ?_ (by rfl)) <;> (simp only [go_sem, fairOk, fieldsOk, hk, g0, g1, g2, g3, f0, f1, f2, f3, f4] <;> try rfl)
  simp only [go_sem]
  refine rnd_succ (by decide) ?_
  simp only [go_sem, hr, he]
  refine ways (fun f5 => ?_) (fun f5 => ?_)
  · simp only [go_sem]
    (first | refine endA_pure0 ?_ | refine endA_pure ?_ (by rfl)) <;> (simp only [go_sem, fairOk, fieldsOk, hk, g0, g1, g2, g3, f0, f1, f2, f3, f4, f5] <;> try rfl)
  simp only [go_sem]
  refine rnd_succ (by decide) ?_
  simp only [go_sem]
  (first | refine endA_pure0 ?_ | refine endA_pure ?_ (by rfl)) <;> (simp only [go_sem, fairOk, fieldsOk, hk, g0, g1, g2, g3, f0, f1, f2, f3, f4, f5] <;> try rfl)
theorem c39_4 (e : Ev) (hk3 : ¬ e.kind = 3) (hk : e.kind = 4) : Pure Tryz.prog 98 [evV e] (bl (fairOk e)) := fun h => by
  refine acalls_wp Tryz.f98 [.tmp 2] 54 rfl rfl rfl rfl rfl rfl (by decide) (⟨_, _, ⟨rfl, rfl⟩, .refl⟩) fun B => ?_
  simp only [go_sem]
  refine call_by (c71 _ _ e (by simp only [go_sem])) ?_
  rintro _ h1 ⟨L, x, e1, rfl, hx⟩
  subst e1
  have hr : ∀ o, rowsOf (h ++ (o :: L)) x = some (ownRows h.length e.kind) := fun o => by
    have := (hx (h ++ [o]) (by simp)).rows
    rw [List.append_assoc] at this
    exact this
  have he : ∀ o, ownRows h.length e.kind ≠ [] → eOf (h ++ (o :: L)) x = some 1 := fun o hn => by
    have := (hx (h ++ [o]) (by simp)).ee hn
    rw [List.append_assoc] at this
    exact this
  simp only [ownRows, hk3, hk, if_true, if_false, ne_eq, reduceCtorEq, not_false_eq_true, true_implies] at hr he
  simp only [go_sem]
  refine ways (fun g0 => ?_) (fun g0 => ?_)
  rotate_left
  · have g0 := beq_ff g0
    simp only [go_sem, g0]
    (first | refine endA_pure0 ?_ | refine endA_pure ?_ (by rfl)) <;> (simp only [go_sem, fairOk, g0] <;> try rfl)
  have g0 := beq_ft g0
  simp only [go_sem, g0]
  refine call_by (c72 e.id 100000 _) ?_
  rintro _ h1 ⟨rfl, e1⟩
  subst e1
  simp only [go_sem, g0]
  refine ways (fun g1 => ?_) (fun g1 => ?_)
  rotate_left
  · have g1 := beq_ff g1
    simp only [go_sem, g0, g1]
    (first | refine endA_pure0 ?_ | refine endA_pure ?_ (by rfl)) <;> (simp only [go_sem, fairOk, g0, g1] <;> try rfl)
  have g1 := beq_ft g1
  simp only [go_sem, g0, g1]
  refine ways (fun g2 => ?_) (fun g2 => ?_)
  rotate_left
  · have g2 := beq_ff g2
    simp only [go_sem, g0, g1, g2]
    (first | refine endA_pure0 ?_ | refine endA_pure ?_ (by rfl)) <;> (simp only [go_sem, fairOk, g0, g1, g2] <;> try rfl)
  have g2 := beq_ft g2
  simp only [go_sem, g0, g1, g2]
  refine call_by (c72 e.at_ 31449599 _) ?_
  rintro _ h1 ⟨rfl, e1⟩
  subst e1
  simp only [go_sem, g0, g1, g2]
  refine ways (fun g3 => ?_) (fun g3 => ?_)
  · simp only [go_sem]
    (first | refine endA_pure0 ?_ | refine endA_pure ?_ (by rfl)) <;> (simp only [go_sem, fairOk, g0, g1, g2, g3] <;> try rfl)
  simp only [go_sem, hr]
  refine wp_unroll 2 (rnd_succ (by decide) ?_)
  simp only [go_sem, hr, he]
  refine ways (fun f0 => ?_) (fun f0 => ?_)
  · simp only [go_sem]
    (first | refine endA_pure0 ?_ | refine endA_pure ?_ (by rfl)) <;> (simp only [go_sem, fairOk, fieldsOk, hk3, hk, g0, g1, g2, g3, f0] <;> try rfl)
  simp only [go_sem]
  refine rnd_succ (by decide) ?_
  simp only [go_sem]
  (first | refine endA_pure0 ?_ | refine endA_pure ?_ (by rfl)) <;> (simp only [go_sem, fairOk, fieldsOk, hk3, hk, g0, g1, g2, g3, f0] <;> try rfl)
theorem c39_0 (e : Ev) (hk3 : ¬ e.kind = 3) (hk : ¬ e.kind = 4) : Pure Tryz.prog 98 [evV e] (bl (fairOk e)) := fun h => by
  refine acalls_wp Tryz.f98 [.tmp 2] 54 rfl rfl rfl rfl rfl rfl (by decide) (⟨_, _, ⟨rfl, rfl⟩, .refl⟩) fun B => ?_
  simp only [go_sem]
  refine call_by (c71 _ _ e (by simp only [go_sem])) ?_
  rintro _ h1 ⟨L, x, e1, rfl, hx⟩
  subst e1
  have hr : ∀ o, rowsOf (h ++ (o :: L)) x = some (ownRows h.length e.kind) := fun o => by
    have := (hx (h ++ [o]) (by simp)).rows
    rw [List.append_assoc] at this
    exact this
  have he : ∀ o, ownRows h.length e.kind ≠ [] → eOf (h ++ (o :: L)) x = some 1 := fun o hn => by
    have := (hx (h ++ [o]) (by simp)).ee hn
    rw [List.append_assoc] at this
    exact this
  simp only [ownRows, hk3, hk, if_true, if_false, ne_eq, reduceCtorEq, not_false_eq_true, true_implies] at hr he
  simp only [go_sem]
  refine ways (fun g0 => ?_) (fun g0 => ?_)
  rotate_left
  · have g0 := beq_ff g0
    simp only [go_sem, g0]
    (first | refine endA_pure0 ?_ | refine endA_pure ?_ (by rfl)) <;> (simp only [go_sem, fairOk, g0] <;> try rfl)
  have g0 := beq_ft g0
  simp only [go_sem, g0]
  refine call_by (c72 e.id 100000 _) ?_
  rintro _ h1 ⟨rfl, e1⟩
  subst e1
  simp only [go_sem, g0]
  refine ways (fun g1 => ?_) (fun g1 => ?_)
  rotate_left
  · have g1 := beq_ff g1
    simp only [go_sem, g0, g1]
    (first | refine endA_pure0 ?_ | refine endA_pure ?_ (by rfl)) <;> (simp only [go_sem, fairOk, g0, g1] <;> try rfl)
  have g1 := beq_ft g1
  simp only [go_sem, g0, g1]
  refine ways (fun g2 => ?_) (fun g2 => ?_)
  rotate_left
  · have g2 := beq_ff g2
    simp only [go_sem, g0, g1, g2]
    (first | refine endA_pure0 ?_ | refine endA_pure ?_ (by rfl)) <;> (simp only [go_sem, fairOk, g0, g1, g2] <;> try rfl)
  have g2 := beq_ft g2
  simp only [go_sem, g0, g1, g2]
  refine call_by (c72 e.at_ 31449599 _) ?_
  rintro _ h1 ⟨rfl, e1⟩
  subst e1
  simp only [go_sem, g0, g1, g2]
  refine ways (fun g3 => ?_) (fun g3 => ?_)
  · simp only [go_sem]
    (first | refine endA_pure0 ?_ | refine endA_pure ?_ (by rfl)) <;> (simp only [go_sem, fairOk, g0, g1, g2, g3] <;> try rfl)
  simp only [go_sem, hr]
  refine wp_unroll 1 (rnd_succ (by decide) ?_)
  simp only [go_sem]
  (first | refine endA_pure0 ?_ | refine endA_pure ?_ (by rfl)) <;> (simp only [go_sem, fairOk, fieldsOk, hk3, hk, g0, g1, g2, g3] <;> try rfl)
theorem c39 (e : Ev) : Pure Tryz.prog 98 [evV e] (bl (fairOk e)) :=
  if h3 : e.kind = 3 then c39_3 e h3 else if h4 : e.kind = 4 then c39_4 e h3 h4 else c39_0 e h3 h4
def flat2 : List (Int × Int) → List (List AV)
  | [] => []
  | p :: r => irow p.1 :: irow p.2 :: flat2 r
theorem flat2_len : ∀ (l : List (Int × Int)), (flat2 l).length = 2 * l.length
  | [] => rfl
  | p :: r => by simp [flat2, flat2_len r]; omega
theorem flat2_get : ∀ (l : List (Int × Int)) (k : Nat) (hk : k < l.length), (flat2 l)[2 * k]? = some [i64 l[k].1] ∧ (flat2 l)[2 * k + 1]? = some [i64 l[k].2]
  | p :: r, 0, _ => ⟨rfl, rfl⟩
  | p :: r, k + 1, hk => by
    have := flat2_get r k (by simpa using hk)
    rw [show 2 * (k + 1) = 2 * k + 1 + 1 by omega]
    simpa [flat2] using this
def belowOk (l : List (Int × Int)) : Bool := l.all fun p => !decide (p.1 ≥ p.2)
theorem wr_two {k : Nat} (h : k < 4611686018427387904) : wr ((k : Int) + 2) = ((k + 2 : Nat) : Int) := by rw [wr_fit (by unfold Fit; omega)]; rfl
theorem c38 (h : List Ob) (x : AV) (l : List (Int × Int)) (hn : l.length < 1099511627776) (hx : SlOf h x 1 (flat2 l)) : ACalls Tryz.prog 97 [x] h fun r h' => r = bl (belowOk l) ∧ h' = h := by
  have hlen := flat2_len l
  refine acalls_wp Tryz.f97 [.tmp 2] 20 rfl rfl rfl rfl rfl rfl (by decide) (⟨_, _, ⟨rfl, rfl⟩, .refl⟩) fun B => ?_
  simp only [go_sem]
  refine wp_loop_a (by decide) (fun n T h' => h' = h ∧ ∃ k : Nat, T 0 = x ∧ T 3 = i64 ((2 * k : Nat) : Int) ∧ k ≤ l.length ∧ (l.take k).all (fun p => !decide (p.1 ≥ p.2)) = true ∧ n = l.length - k) l.length
    ⟨rfl, 0, by simp only [go_sem], by (simp only [go_sem] <;> rfl), by omega, rfl, rfl⟩ ?_
  rintro n T h' ⟨rfl, k, t0, t3, hk, h0, rfl⟩
  simp only [go_sem, t0, t3, hx.rows, hlen]
  refine ways (fun e1 => ?_) (fun e1 => ?_)
  · have hlt : k < l.length := by
      have : ((2 * k : Nat) : Int) < ((2 * l.length : Nat) : Int) := by simpa using e1
      omega
    obtain ⟨r0, r1⟩ := flat2_get l k hlt
    have hee := hx.at (i := 0) (by omega)
    have b0 : ((2 * k : Nat) : Int) < ((2 * l.length : Nat) : Int) := by omega
    have b1 : ((2 * k + 1 : Nat) : Int) < ((2 * l.length : Nat) : Int) := by omega
    have w1 := wr_succ (k := 2 * k) (by omega)
    have w2 := wr_two (k := 2 * k) (by omega)
    simp only [go_sem]
    refine wp_draw rfl [] 0 [(0, 0, []), (1, 0, []), (4, 0, []), (5, 0, []), (6, 0, []), (2, 0, []), (3, 0, []), (7, 0, []), (8, 0, []), (9, 0, [])] rfl (by decide) (by decide) ?_
    simp only [go_sem, t0, t3, hx.rows, hlen, hee, r0, r1, b0, b1, w1, Int.toNat_natCast, Int.natCast_nonneg]
    refine ways (fun e2 => ?_) (fun e2 => ?_)
    · simp only [go_sem]
      have hno : belowOk l = false := by
        unfold belowOk
        rw [List.all_eq_false]
        exact ⟨l[k], List.getElem_mem hlt, by simp only [e2]; simp⟩
      (first | refine endA_pure0 ?_ | refine endA_pure ?_ (by rfl)) <;> (simp only [go_sem, hno] <;> try rfl)
    · simp only [go_sem, t3, w2]
      refine ⟨l.length - (k + 1), by omega, k + 1, t0, rfl, by omega, ?_, rfl⟩
      rw [List.take_add_one, List.getElem?_eq_getElem hlt, List.all_append, h0]
      simp only [Option.toList_some, List.all_cons, List.all_nil, e2, Bool.and_self, Bool.not_false]
  · have hlt : k = l.length := by
      have : ¬ ((2 * k : Nat) : Int) < ((2 * l.length : Nat) : Int) := by simpa using e1
      omega
    rw [hlt, List.take_length] at h0
    simp only [go_sem]
    (first | refine endA_pure0 ?_ | refine endA_pure ?_ (by rfl)) <;> (simp only [go_sem, belowOk, h0] <;> try rfl)
def evOk (s : Setup) (e : Ev) : Bool := !(!fairOk e) && (!(!belowOk [(e.worker, s.rates.length)]) && (if e.kind = 3 then belowOk [(e.from_, s.places), (e.to_, s.places), (e.element, s.elements.length), (e.class_, s.classes.length), (e.gear, s.gears.length), (e.units, 10001)] else if e.kind = 4 then decide (e.code ≤ 99) else true))
theorem c14 (h : List Ob) (s : Setup) (a : SA) (k : SIn h s a) (e : Ev) : ACalls Tryz.prog 50 [setupV s a, evV e] h fun r h' => r = bl (evOk s e) ∧ h' = h := by
  refine acalls_wp Tryz.f50 [.tmp 4] 57 rfl rfl rfl rfl rfl rfl (by decide) (⟨_, _, ⟨rfl, rfl⟩, .refl⟩) fun B => ?_
  simp only [go_sem, k.w.one, k.e.one, k.c.one, k.g.one, k.r.one, k.t.one]
  refine call_by (c39 e _) ?_
  rintro _ h1 ⟨rfl, e1⟩
  subst e1
  simp only [go_sem]
  refine ways (fun g0 => ?_) (fun g0 => ?_)
  rotate_left
  · have g0 := beq_ff g0
    simp only [go_sem, g0]
    (first | refine endA_pure0 ?_ | refine endA_pure ?_ (by rfl)) <;> (simp only [go_sem, evOk, g0] <;> try rfl)
  have g0 := beq_ft g0
  simp only [go_sem, g0, (k.app _).r.rows, List.length_map]
  refine call_by (c38 _ _ [(e.worker, s.rates.length)] (by simp) ⟨by simp only [go_sem, flat2, irow], fun _ => by simp only [go_sem, flat2, irow]⟩) ?_
  rintro _ h1 ⟨rfl, e1⟩
  subst e1
  simp only [go_sem, g0]
  refine ways (fun g1 => ?_) (fun g1 => ?_)
  · simp only [go_sem]
    (first | refine endA_pure0 ?_ | refine endA_pure ?_ (by rfl)) <;> (simp only [go_sem, evOk, g0, g1] <;> try rfl)
  simp only [go_sem]
  by_cases hk3 : e.kind = 3
  · simp only [go_sem, hk3, (k.app _).e.rows, (k.app _).c.rows, (k.app _).g.rows, List.length_map]
    refine call_by (c38 _ _ [(e.from_, s.places), (e.to_, s.places), (e.element, s.elements.length), (e.class_, s.classes.length), (e.gear, s.gears.length), (e.units, 10001)] (by simp) ⟨by simp only [go_sem, flat2, irow], fun _ => by simp only [go_sem, flat2, irow]⟩) ?_
    rintro _ h1 ⟨rfl, e1⟩
    subst e1
    simp only [go_sem]
    (first | refine endA_pure0 ?_ | refine endA_pure ?_ (by rfl)) <;> (simp only [go_sem, evOk, g0, g1, hk3] <;> try rfl)
  · refine ways (fun q => absurd (by simpa using q) hk3) (fun q => ?_)
    simp only [go_sem]
    by_cases hk4 : e.kind = 4
    · refine ways (fun q => ?_) (fun q => absurd hk4 (by simpa using q))
      simp only [go_sem]
      (first | refine endA_pure0 ?_ | refine endA_pure ?_ (by rfl)) <;> (simp only [go_sem, evOk, g0, g1, hk3, hk4] <;> try rfl)
    · refine ways (fun q => absurd (by simpa using q) hk4) (fun q => ?_)
      simp only [go_sem]
      (first | refine endA_pure0 ?_ | refine endA_pure ?_ (by rfl)) <;> (simp only [go_sem, evOk, g0, g1, hk3, hk4] <;> try rfl)
end Go.Proofs.YtpdghiplnlhnfaaGreat.Ax
