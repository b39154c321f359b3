/-
  Joined: GoalP, TierPl. Nothing is proved here of a statement.
-/
import Derived.Test.YtpdghiplnlhnfaaGreatNB
import Derived.Test.YtpdghiplnlhnfaaGreatND
import Derived.Test.YtpdghiplnlhnfaaGreatMO
namespace Go.Proofs.YtpdghiplnlhnfaaGreat.Ax
set_option linter.unusedSimpArgs false
set_option linter.unusedVariables false
open Go Go.Proofs
def thenP (f : Rat2 → Rat2 → Rat2 × Int) (a b : Rat2) (w : Int) : Rat2 × Int := (if w = 0 then (f a b).1 else (0, 0), if w = 0 then (f a b).2 else w)
def mulR : Rat2 → Rat2 → Rat2 × Int := twoR mulV
def addR (a b : Rat2) : Rat2 × Int := sumR [a, b]
def ratAt (l : List Rat2) (i : Int) : Rat2 := l.getD i.toNat (0, 0)
def eltAt (l : List Elt) (i : Int) : Elt := l.getD i.toNat ((0, 0), (0, 0))
def stepsP (s : Setup) (e : Ev) (far : Int) : Rat2 × Int :=
  let x1 := thenP mulR (far, 1) s.pace 0
  let x2 := thenP mulR x1.1 (ratAt s.gears e.gear) x1.2
  let x3 := thenP mulR (eltAt s.elements e.element).2 (e.units, 1) x2.2
  let x4 := thenP addR (eltAt s.elements e.element).1 x3.1 x3.2
  let x5 := thenP mulR x4.1 (ratAt s.classes e.class_) x4.2
  let x6 := thenP addR x2.1 x5.1 x5.2
  thenP mulR x6.1 (make (wr (100 + s.allow)) 100).1 x6.2
def farP (s : Setup) (e : Ev) : Int := matAt (tableP s) e.from_.toNat e.to_.toNat
def goalP (s : Setup) (e : Ev) : Rat2 × Int :=
  if setupOk s && (evOk s e && e.kind == 3) then
    if farP s e = -1 then ((0, 0), 100) else if (stepsP s e (farP s e)).2 = 0 then ((stepsP s e (farP s e)).1, 0) else ((0, 0), (stepsP s e (farP s e)).2)
  else ((0, 0), 100)
/-! A sum that goes on as long as nothing is wrong. -/
def takeS (z : Rat2 × Int) (v : Rat2 × Int) : Rat2 × Int := if z.2 = 0 then v else z
/-- The event that a part is of. -/
def taskOf (l : List Ev) (g : Seg) : Ev := (l.find? (isTask g.id)).getD zeroEv
def partOf (k : Int) (g : Seg) : Bool := g.kind == 1 && weekI g.from_ == k
def subR : Rat2 → Rat2 → Rat2 × Int := twoR subV
def divR : Rat2 → Rat2 → Rat2 × Int := twoR divV
structure PerfV where
  earned : Rat2
  eligible : Int
  perf : Rat2
  err : Int
/-- What a worker's events make of a week. -/
def weekP (s : Setup) (events : List Ev) (segs : List Seg) (k : Int) : PerfV :=
  let sel := segs.filter (partOf k)
  let eligible := sel.foldl (fun n g => wr (n + wr (g.to_ - g.from_))) 0
  let goals := sel.map fun g => (goalP s (taskOf events g)).1
  let all0 := sel.foldl (fun z g => takeS z ((0, 1), (goalP s (taskOf events g)).2)) ((0, 1), 0)
  let all1 := takeS all0 (sumR goals)
  let lost := takeS ((0, 1), all1.2) (make (wr (s.fault * (faultsP events k : Int))) 1)
  let all2 := takeS all1 lost
  let all3 := if all2.2 = 0 then takeS all2 (subR (sumR goals).1 lost.1) else all2
  let all4 := if all3.2 = 0 ∧ all3.1.1 < 0 then ((0, 1), all3.2) else all3
  let done := if eligible > 0 ∧ all4.2 = 0 then takeS (takeS ((0, 1), all4.2) (make eligible 1)) (divR all4.1 (make eligible 1).1) else ((0, 1), all4.2)
  if done.2 = 0 then ⟨all4.1, eligible, done.1, 0⟩ else ⟨(0, 0), eligible, (0, 0), done.2⟩
def perfP (s : Setup) (l : List Ev) (w k : Int) : PerfV :=
  if setupOk s then weekP s (ownP s w l) (streamP s (ownP s w l) w).1 k else ⟨(0, 1), 0, (0, 1), 0⟩
theorem own_own {s : Setup} {w : Int} {l : List Ev} : ownP s w (l.filter fun e => !notOwn s w e) = ownP s w l := by
  unfold ownP
  rw [stabE_filter, List.filter_filter]
  simp
/-- It hangs on the worker's own events alone. -/
theorem perf_own {s : Setup} {l : List Ev} {w k : Int} : perfP s (l.filter fun e => !notOwn s w e) w k = perfP s l w k := by
  unfold perfP
  rw [own_own]
end Go.Proofs.YtpdghiplnlhnfaaGreat.Ax

namespace Go.Proofs.YtpdghiplnlhnfaaGreat.Ax
set_option linter.unusedSimpArgs false
set_option linter.unusedVariables false
open Go Go.Proofs
theorem rok_bound {p : Rat2} (h : rok p = true) : (0 < p.2 ∧ p.2 ≤ 2147483647) ∧ (-2147483647 ≤ p.1 ∧ p.1 ≤ 2147483647) := by
  simp only [rok, Bool.and_eq_true, beq_iff_eq] at h
  obtain ⟨h1, h2, h3⟩ := h
  unfold make at h1 h2 h3
  by_cases hd : p.2 ≤ 0
  · rw [if_pos hd] at h1; simp at h1
  · rw [if_neg hd] at h1 h2 h3
    by_cases hn : p.1 = 0
    · rw [if_pos hn] at h2 h3
      simp only at h2 h3
      omega
    · rw [if_neg hn] at h1 h2 h3
      split at h1
      · simp at h1
      · rename_i hb
        rw [if_neg hb] at h2 h3
        simp only at h2 h3
        rw [h2, h3] at hb
        omega
def tstT (L : Nat) : Bool := (make L 100).2 == 0 && (rok (make L 100).1 && ((make L 100).1.1 * 100 == (L : Int) * (make L 100).1.2 && (decide (0 < (make L 100).1.2) && (decide ((make L 100).1.2 ≤ 100) && (decide (0 ≤ (make L 100).1.1) && decide ((make L 100).1.1 ≤ 1000))))))
theorem tst_all : ∀ L : Nat, L < 1001 → tstT L = true := by decide +kernel
theorem reach_iff {p : Rat2} {t : Tier} (hp : rok p = true) (h0 : 0 ≤ t.1) (h1 : t.1 ≤ 1000) : reachP p t = true ↔ t.1 * p.2 ≤ 100 * p.1 := by
  obtain ⟨⟨b1, b2⟩, b3, b4⟩ := rok_bound hp
  obtain ⟨L, hL⟩ := Int.eq_ofNat_of_zero_le h0
  have ht := tst_all L (by omega)
  simp only [tstT, Bool.and_eq_true, beq_iff_eq, decide_eq_true_eq] at ht
  obtain ⟨_, m1, m2, m3, m4, m5, m6⟩ := ht
  rw [hL]
  unfold reachP
  rw [hL]
  change (!lessR p (make (L : Int) 100).1) = true ↔ (L : Int) * p.2 ≤ 100 * p.1
  generalize (make (L : Int) 100).1 = m at *
  have c1 : p.1 * m.2 ≤ 2147483647 * 100 := by
    have := Int.mul_le_mul_of_nonneg_right (a := p.1) (b := 2147483647) (c := m.2) b4 (by omega)
    omega
  have c2 : -2147483647 * 100 ≤ p.1 * m.2 := by
    have := Int.mul_le_mul_of_nonneg_right (a := -2147483647) (b := p.1) (c := m.2) b3 (by omega)
    omega
  have c3 : 0 ≤ m.1 * p.2 := Int.mul_nonneg m5 (by omega)
  have c4 : m.1 * p.2 ≤ 1000 * 2147483647 := by
    have := Int.mul_le_mul m6 b2 (by omega) (by omega)
    exact this
  unfold lessR
  rw [hp, m1, wr_fit (n := p.1 * m.2) (by unfold Fit; omega), wr_fit (n := m.1 * p.2) (by unfold Fit; omega)]
  simp only [Bool.true_and, Bool.not_eq_true', decide_eq_false_iff_not, Int.not_lt]
  have e1 : m.2 * ((L : Int) * p.2) = 100 * (m.1 * p.2) := by
    rw [← Int.mul_assoc, Int.mul_comm m.2, ← m2, Int.mul_comm m.1 100, Int.mul_assoc]
  have e2 : m.2 * (100 * p.1) = 100 * (p.1 * m.2) := by
    rw [← Int.mul_assoc, Int.mul_comm m.2 100, Int.mul_assoc, Int.mul_comm m.2]
  constructor
  · intro h
    have : m.2 * ((L : Int) * p.2) ≤ m.2 * (100 * p.1) := by rw [e1, e2]; omega
    exact Int.le_of_mul_le_mul_left this m3
  · intro h
    have := Int.mul_le_mul_of_nonneg_left h (show 0 ≤ m.2 by omega)
    rw [e1, e2] at this
    omega
theorem tierG_spec (p : Rat2) : ∀ (l : List Tier) (out i : Int), (tierG p out i l = out ∧ ∀ t ∈ l, reachP p t = false) ∨ ∃ (j : Nat) (t : Tier), l[j]? = some t ∧ tierG p out i l = i + j ∧ reachP p t = true ∧ ∀ k t', j < k → l[k]? = some t' → reachP p t' = false
  | [], out, i => .inl ⟨rfl, fun _ h => by cases h⟩
  | t :: l, out, i => by
    have e : tierG p out i (t :: l) = tierG p (if reachP p t then i else out) (i + 1) l := rfl
    rcases tierG_spec p l (if reachP p t then i else out) (i + 1) with ⟨h1, h2⟩ | ⟨j, u, h1, h2, h3, h4⟩
    · cases hr : reachP p t
      · refine .inl ⟨by rw [e, h1, hr]; rfl, fun x hx => ?_⟩
        rcases List.mem_cons.1 hx with rfl | hx
        · exact hr
        · exact h2 x hx
      · refine .inr ⟨0, t, rfl, by rw [e, h1, hr]; simp, hr, fun k t' hk ht' => ?_⟩
        cases k with
        | zero => omega
        | succ k => exact h2 t' (List.mem_of_getElem? (by simpa using ht'))
    · refine .inr ⟨j + 1, u, by simpa using h1, by rw [e, h2]; omega, h3, fun k t' hk ht' => ?_⟩
      cases k with
      | zero => omega
      | succ k => exact h4 k t' (by omega) (by simpa using ht')
theorem tiers_in : ∀ {l : List Tier} {last : Int}, -1 ≤ last → tiersBad last l = false → ∀ t ∈ l, 0 ≤ t.1 ∧ t.1 ≤ 1000
  | [], _, _, _, _, ht => by cases ht
  | x :: l, last, h0, h, t, ht => by
    simp only [tiersBad, tierBad, Bool.or_eq_false_iff, decide_eq_false_iff_not] at h
    obtain ⟨⟨⟨h1, h2⟩, _⟩, h3⟩ := h
    rcases List.mem_cons.1 ht with rfl | ht
    · omega
    · exact tiers_in (last := x.1) (by omega) h3 t ht
theorem setup_tiers {s : Setup} (hs : setupOk s = true) : (∀ t ∈ s.tiers, 0 ≤ t.1 ∧ t.1 ≤ 1000) ∧ s.tiers.length ≤ 8 := by
  simp only [setupOk, moneyOk, Bool.and_eq_true, Bool.not_eq_true', decide_eq_true_eq] at hs
  exact ⟨tiers_in (by omega) hs.2.2, by have := hs.2.1.2; omega⟩
/-- Which one it reaches; that it does not reach the next one. -/
theorem tier_in {s : Setup} {p : Rat2} (hs : setupOk s = true) (hp : rok p = true) : (tierP s p = -1 ∧ ∀ t ∈ s.tiers, ¬ t.1 * p.2 ≤ 100 * p.1) ∨ ∃ (j : Nat) (t : Tier), s.tiers[j]? = some t ∧ tierP s p = (j : Int) ∧ t.1 * p.2 ≤ 100 * p.1 ∧ ∀ k t', j < k → s.tiers[k]? = some t' → ¬ t'.1 * p.2 ≤ 100 * p.1 := by
  have hin := (setup_tiers hs).1
  have e : tierP s p = tierG p (-1) 0 s.tiers := by unfold tierP; rw [hs, hp]; rfl
  rw [e]
  rcases tierG_spec p s.tiers (-1) 0 with ⟨h1, h2⟩ | ⟨j, t, h1, h2, h3, h4⟩
  · exact .inl ⟨h1, fun t ht q => by
      have := (reach_iff hp (hin t ht).1 (hin t ht).2).2 q
      rw [h2 t ht] at this; cases this⟩
  · have ht := List.mem_of_getElem? h1
    refine .inr ⟨j, t, h1, by rw [h2]; omega, (reach_iff hp (hin t ht).1 (hin t ht).2).1 h3, fun k t' hk ht' q => ?_⟩
    have ht2 := List.mem_of_getElem? ht'
    have := (reach_iff hp (hin t' ht2).1 (hin t' ht2).2).2 q
    rw [h4 k t' hk ht'] at this; cases this
/-- A greater one reaches no less. -/
theorem tier_mono {s : Setup} {p q : Rat2} (hs : setupOk s = true) (hl : lessR p q = true) : tierP s p ≤ tierP s q := by
  simp only [lessR, Bool.and_eq_true, decide_eq_true_eq] at hl
  obtain ⟨⟨hp, hq⟩, hlt⟩ := hl
  obtain ⟨⟨b1, b2⟩, b3, b4⟩ := rok_bound hp
  obtain ⟨⟨d1, d2⟩, d3, d4⟩ := rok_bound hq
  have bd : ∀ {x y : Int}, -2147483647 ≤ x → x ≤ 2147483647 → 0 < y → y ≤ 2147483647 → Fit (x * y) := fun {x y} h1 h2 h3 h4 => by
    have e1 := Int.mul_le_mul_of_nonneg_right (a := x) (b := 2147483647) (c := y) h2 (by omega)
    have e2 := Int.mul_le_mul_of_nonneg_right (a := -2147483647) (b := x) (c := y) h1 (by omega)
    unfold Fit; omega
  rw [wr_fit (bd b3 b4 d1 d2), wr_fit (bd d3 d4 b1 b2)] at hlt
  have up : ∀ {t : Tier}, 0 ≤ t.1 → t.1 * p.2 ≤ 100 * p.1 → t.1 * q.2 ≤ 100 * q.1 := fun {t} h0 h => by
    have e1 := Int.mul_le_mul_of_nonneg_right h (show 0 ≤ q.2 by omega)
    have e2 : t.1 * p.2 * q.2 = p.2 * (t.1 * q.2) := by rw [Int.mul_comm t.1 p.2, Int.mul_assoc]
    have e3 : 100 * p.1 * q.2 = 100 * (p.1 * q.2) := by rw [Int.mul_assoc]
    have e4 : p.2 * (100 * q.1) = 100 * (q.1 * p.2) := by rw [← Int.mul_assoc, Int.mul_comm p.2 100, Int.mul_assoc, Int.mul_comm p.2]
    have : p.2 * (t.1 * q.2) ≤ p.2 * (100 * q.1) := by rw [e4]; omega
    exact Int.le_of_mul_le_mul_left this b1
  have hin := (setup_tiers hs).1
  rcases tier_in hs hp with ⟨h1, _⟩ | ⟨j, t, h1, h2, h3, _⟩
  · rw [h1]
    rcases tier_in hs hq with ⟨k1, _⟩ | ⟨j, t, k1, k2, _⟩
    · omega
    · omega
  · have ht := List.mem_of_getElem? h1
    have hr := up (hin t ht).1 h3
    rcases tier_in hs hq with ⟨k1, k2⟩ | ⟨i, u, k1, k2, k3, k4⟩
    · exact absurd hr (k2 t ht)
    · rw [h2, k2]
      by_cases hij : i < j
      · exact absurd hr (k4 j t hij h1)
      · omega
end Go.Proofs.YtpdghiplnlhnfaaGreat.Ax
