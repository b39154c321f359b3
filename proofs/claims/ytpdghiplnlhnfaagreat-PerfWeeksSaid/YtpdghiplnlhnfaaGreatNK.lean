/-
  Joined: RatP, FaultP. Nothing is proved here of a statement.
-/
import Derived.Test.YtpdghiplnlhnfaaGreatNE
namespace Go.Proofs.YtpdghiplnlhnfaaGreat.Ax
set_option linter.unusedSimpArgs false
set_option linter.unusedVariables false
open Go Go.Proofs
structure Lo (p : Rat2) : Prop where
  pos : 0 < p.2
  cop : Int.gcd p.1 p.2 = 1
  num : -2147483647 ≤ p.1 ∧ p.1 ≤ 2147483647
  den : p.2 ≤ 2147483647
theorem red_dvd {a b a' b' : Int} (h : a * b' = a' * b) (hg : Int.gcd a b = 1) : b ∣ b' := by
  have h1 : b.natAbs ∣ a.natAbs * b'.natAbs := by
    rw [← Int.natAbs_mul, h, Int.natAbs_mul]
    exact Nat.dvd_mul_left _ _
  have h2 : Nat.Coprime b.natAbs a.natAbs := by
    have : Nat.gcd a.natAbs b.natAbs = 1 := hg
    rw [Nat.Coprime, Nat.gcd_comm]; exact this
  exact Int.natAbs_dvd_natAbs.1 (h2.dvd_of_dvd_mul_left h1)
theorem red_uniq {a b a' b' : Int} (hb : 0 < b) (hb' : 0 < b') (hg : Int.gcd a b = 1) (hg' : Int.gcd a' b' = 1) (h : a * b' = a' * b) : a = a' ∧ b = b' := by
  have h1 := red_dvd h hg
  have h2 := red_dvd h.symm hg'
  have e : b = b' := Int.dvd_antisymm (by omega) (by omega) h1 h2
  subst e
  exact ⟨Int.eq_of_mul_eq_mul_right (by omega) h, rfl⟩
theorem side_abs {n : Int} (h : -9223372036854775807 ≤ n ∧ n ≤ 9223372036854775807) : (side n).toNat = n.natAbs := by
  unfold side
  split
  · omega
  · split
    · rw [wr_fit (by unfold Fit; omega)]; omega
    · omega
/-- What makes a ratio: its lowest terms, as long as they are no too great ones. -/
theorem make_red {n d : Int} (hn : -9223372036854775807 ≤ n ∧ n ≤ 9223372036854775807) (hd : 0 < d ∧ d ≤ 9223372036854775807) :
    ∃ a b g : Int, 0 < g ∧ n = g * a ∧ d = g * b ∧ 0 < b ∧ Int.gcd a b = 1 ∧ make n d = if a > 2147483647 ∨ a < -2147483647 ∨ b > 2147483647 then ((0, 0), 10) else ((a, b), 0) := by
  have hd0 : ¬ d ≤ 0 := by omega
  by_cases h0 : n = 0
  · refine ⟨0, 1, d, hd.1, by omega, by omega, by omega, by decide, ?_⟩
    rw [make, if_neg hd0, if_pos h0]; rfl
  · have hG : gcdI n d = (Int.gcd n d : Int) := by
      unfold gcdI
      rw [side_abs hn, side_abs (by omega)]; rfl
    have hp : 0 < Int.gcd n d := Int.gcd_pos_of_ne_zero_left _ h0
    obtain ⟨a, ha⟩ := Int.gcd_dvd_left n d
    obtain ⟨b, hb⟩ := Int.gcd_dvd_right n d
    obtain ⟨g, hg⟩ : ∃ g : Nat, g = Int.gcd n d := ⟨_, rfl⟩
    rw [← hg] at hG hp ha hb
    have hgp : (0 : Int) < g := by omega
    have hbp : 0 < b := by
      rcases Int.lt_or_le 0 b with h | h
      · exact h
      · have := Int.mul_le_mul_of_nonneg_left h (Int.le_of_lt hgp)
        omega
    have hcop : Int.gcd a b = 1 := by
      have e : Int.gcd ((g : Int) * a) ((g : Int) * b) = g * Int.gcd a b := by
        rw [Int.gcd_mul_left]; simp
      rw [← ha, ← hb, ← hg] at e
      have : g * 1 = g * Int.gcd a b := by omega
      exact (Nat.eq_of_mul_eq_mul_left hp this).symm
    have e1 : n.tdiv (g : Int) = a := by rw [ha]; exact Int.mul_tdiv_cancel_left a (by omega)
    have e2 : d.tdiv (g : Int) = b := by rw [hb]; exact Int.mul_tdiv_cancel_left b (by omega)
    have ba : -9223372036854775807 ≤ a ∧ a ≤ 9223372036854775807 := by
      have h1 : a.natAbs ≤ n.natAbs := by
        rw [ha, Int.natAbs_mul]
        exact Nat.le_mul_of_pos_left _ (by omega)
      omega
    have bb : b ≤ 9223372036854775807 := by
      have h1 : b.natAbs ≤ d.natAbs := by
        rw [hb, Int.natAbs_mul]
        exact Nat.le_mul_of_pos_left _ (by omega)
      omega
    refine ⟨a, b, g, hgp, ha, hb, hbp, hcop, ?_⟩
    rw [make, if_neg hd0, if_neg h0, hG, e1, e2, wr_fit (by unfold Fit; omega), wr_fit (by unfold Fit; omega)]
theorem make_ok {n d : Int} (hn : -9223372036854775807 ≤ n ∧ n ≤ 9223372036854775807) (hd : 0 < d ∧ d ≤ 9223372036854775807) (h : (make n d).2 = 0) :
    Lo (make n d).1 ∧ (make n d).1.1 * d = n * (make n d).1.2 := by
  obtain ⟨a, b, g, h1, h2, h3, h4, h5, e⟩ := make_red hn hd
  rw [e] at h ⊢
  split at h
  · exact absurd h (by decide)
  · rename_i hb
    rw [if_neg hb]
    refine ⟨⟨h4, h5, by simp only; omega, by simp only; omega⟩, ?_⟩
    simp only
    rw [h2, h3]; grind
theorem make_lo {p : Rat2} (h : Lo p) : make p.1 p.2 = (p, 0) := by
  have := h.num; have := h.den; have := h.pos
  obtain ⟨a, b, g, h1, h2, h3, h4, h5, e⟩ := make_red (n := p.1) (d := p.2) (by omega) (by omega)
  obtain ⟨e1, e2⟩ := red_uniq h.pos h4 h.cop h5 (by rw [h2, h3]; grind)
  rw [e, ← e1, ← e2, if_neg (by omega)]
theorem lo_rok {p : Rat2} (h : Lo p) : rok p = true := by simp [rok, make_lo h]
theorem rok_make {p : Rat2} (h : rok p = true) : make p.1 p.2 = (p, 0) := by
  simp only [rok, Bool.and_eq_true, beq_iff_eq] at h
  exact Prod.ext (Prod.ext h.2.1 h.2.2) h.1
theorem rok_lo {p : Rat2} (h : rok p = true) : Lo p := by
  obtain ⟨⟨b1, b2⟩, b3, b4⟩ := rok_bound h
  have e := rok_make h
  have := (make_ok (n := p.1) (d := p.2) (by omega) (by omega) (by rw [e])).1
  rw [e] at this
  exact this
/-- Of like values, one and the same. -/
theorem make_same {n d n' d' : Int} (hn : -9223372036854775807 ≤ n ∧ n ≤ 9223372036854775807) (hd : 0 < d ∧ d ≤ 9223372036854775807) (hn' : -9223372036854775807 ≤ n' ∧ n' ≤ 9223372036854775807) (hd' : 0 < d' ∧ d' ≤ 9223372036854775807) (h : n * d' = n' * d) : make n d = make n' d' := by
  obtain ⟨a, b, g, h1, h2, h3, h4, h5, e⟩ := make_red hn hd
  obtain ⟨a', b', g', h1', h2', h3', h4', h5', e'⟩ := make_red hn' hd'
  have hc : a * b' = a' * b := by
    rw [h2, h3, h2', h3'] at h
    have : (g * g') * (a * b') = (g * g') * (a' * b) := by grind
    exact Int.eq_of_mul_eq_mul_left (Int.ne_of_gt (Int.mul_pos h1 h1')) this
  obtain ⟨e1, e2⟩ := red_uniq h4 h4' h5 h5' hc
  rw [e, e', e1, e2]
theorem make_one {n : Int} (hn : -2147483647 ≤ n ∧ n ≤ 2147483647) : make n 1 = ((n, 1), 0) :=
  make_lo (p := (n, 1)) ⟨by simp, by simp, hn, by simp⟩
theorem make_one_ok {n : Int} (hn : -9223372036854775807 ≤ n ∧ n ≤ 9223372036854775807) (h : (make n 1).2 = 0) : (-2147483647 ≤ n ∧ n ≤ 2147483647) ∧ (make n 1).1 = (n, 1) := by
  obtain ⟨a, b, g, h1, h2, h3, h4, h5, e⟩ := make_red hn (d := 1) (by omega)
  have hg : g = 1 := by
    have : g ∣ 1 := ⟨b, h3⟩
    exact Int.eq_one_of_dvd_one (by omega) this
  subst hg
  rw [e] at h
  split at h
  · exact absurd h (by decide)
  · rename_i hb
    rw [e, if_neg hb]
    exact ⟨by omega, by simp only [Prod.mk.injEq]; omega⟩
theorem two_ok {v : Rat2 → Rat2 → Int × Int} {a b : Rat2} (h : (twoR v a b).2 = 0) : rok a = true ∧ rok b = true ∧ twoR v a b = make (v a b).1 (v a b).2 := by
  unfold twoR at h ⊢
  split at h
  · rename_i h1
    rw [if_pos h1]
    simp only [Bool.and_eq_true] at h1
    exact ⟨h1.1, h1.2, rfl⟩
  · exact absurd h (by decide)
theorem two_lo {v : Rat2 → Rat2 → Int × Int} {a b : Rat2} (ha : Lo a) (hb : Lo b) : twoR v a b = make (v a b).1 (v a b).2 := by
  rw [twoR, if_pos (by simp [lo_rok ha, lo_rok hb])]
theorem mul_bd {x y : Int} (h1 : -2147483647 ≤ x) (h2 : x ≤ 2147483647) (h3 : -2147483647 ≤ y) (h4 : y ≤ 2147483647) : -4611686014132420609 ≤ x * y ∧ x * y ≤ 4611686014132420609 := by
  have h : (x * y).natAbs ≤ 2147483647 * 2147483647 := by
    rw [Int.natAbs_mul]
    exact Nat.mul_le_mul (by omega) (by omega)
  omega
theorem sub_lo {a b : Rat2} (ha : Lo a) (hb : Lo b) : subR a b = make (a.1 * b.2 - b.1 * a.2) (a.2 * b.2) ∧ (-9223372036854775807 ≤ a.1 * b.2 - b.1 * a.2 ∧ a.1 * b.2 - b.1 * a.2 ≤ 9223372036854775807) ∧ (0 < a.2 * b.2 ∧ a.2 * b.2 ≤ 9223372036854775807) := by
  have := ha.num; have := ha.den; have := ha.pos; have := hb.num; have := hb.den; have := hb.pos
  have m1 := mul_bd (x := a.1) (y := b.2) (by omega) (by omega) (by omega) (by omega)
  have m2 := mul_bd (x := b.1) (y := a.2) (by omega) (by omega) (by omega) (by omega)
  have m3 := mul_bd (x := a.2) (y := b.2) (by omega) (by omega) (by omega) (by omega)
  have m4 := Int.mul_pos ha.pos hb.pos
  refine ⟨?_, by omega, by omega⟩
  rw [subR, two_lo ha hb]
  show make (wr (wr (a.1 * b.2) - wr (b.1 * a.2))) (wr (a.2 * b.2)) = _
  rw [wr_fit (n := a.1 * b.2) (by unfold Fit; omega), wr_fit (n := b.1 * a.2) (by unfold Fit; omega), wr_fit (n := a.1 * b.2 - b.1 * a.2) (by unfold Fit; omega), wr_fit (n := a.2 * b.2) (by unfold Fit; omega)]
theorem mul_lo {a b : Rat2} (ha : Lo a) (hb : Lo b) : mulR a b = make (a.1 * b.1) (a.2 * b.2) ∧ (-9223372036854775807 ≤ a.1 * b.1 ∧ a.1 * b.1 ≤ 9223372036854775807) ∧ (0 < a.2 * b.2 ∧ a.2 * b.2 ≤ 9223372036854775807) := by
  have := ha.num; have := ha.den; have := ha.pos; have := hb.num; have := hb.den; have := hb.pos
  have m1 := mul_bd (x := a.1) (y := b.1) (by omega) (by omega) (by omega) (by omega)
  have m3 := mul_bd (x := a.2) (y := b.2) (by omega) (by omega) (by omega) (by omega)
  have m4 := Int.mul_pos ha.pos hb.pos
  refine ⟨?_, by omega, by omega⟩
  rw [mulR, two_lo ha hb]
  show make (wr (a.1 * b.1)) (wr (a.2 * b.2)) = _
  rw [wr_fit (n := a.1 * b.1) (by unfold Fit; omega), wr_fit (n := a.2 * b.2) (by unfold Fit; omega)]
theorem div_lo {a b : Rat2} (ha : Lo a) (hb : Lo b) (h0 : 0 < b.1) : divR a b = make (a.1 * b.2) (a.2 * b.1) ∧ (-9223372036854775807 ≤ a.1 * b.2 ∧ a.1 * b.2 ≤ 9223372036854775807) ∧ (0 < a.2 * b.1 ∧ a.2 * b.1 ≤ 9223372036854775807) := by
  have := ha.num; have := ha.den; have := ha.pos; have := hb.num; have := hb.den; have := hb.pos
  have m1 := mul_bd (x := a.1) (y := b.2) (by omega) (by omega) (by omega) (by omega)
  have m3 := mul_bd (x := a.2) (y := b.1) (by omega) (by omega) (by omega) (by omega)
  have m4 := Int.mul_pos ha.pos h0
  refine ⟨?_, by omega, by omega⟩
  rw [divR, two_lo ha hb]
  show make (wr (a.1 * b.2)) (wr (a.2 * b.1)) = _
  rw [wr_fit (n := a.1 * b.2) (by unfold Fit; omega), wr_fit (n := a.2 * b.1) (by unfold Fit; omega)]
theorem less_lo {p q : Rat2} (hp : Lo p) (hq : Lo q) : lessR p q = decide (p.1 * q.2 < q.1 * p.2) := by
  have := hp.num; have := hp.den; have := hp.pos; have := hq.num; have := hq.den; have := hq.pos
  have m1 := mul_bd (x := p.1) (y := q.2) (by omega) (by omega) (by omega) (by omega)
  have m2 := mul_bd (x := q.1) (y := p.2) (by omega) (by omega) (by omega) (by omega)
  rw [lessR, lo_rok hp, lo_rok hq, wr_fit (n := p.1 * q.2) (by unfold Fit; omega), wr_fit (n := q.1 * p.2) (by unfold Fit; omega)]
  simp
theorem lo_zero : Lo (0, 1) := ⟨by decide, by decide, by decide, by decide⟩
end Go.Proofs.YtpdghiplnlhnfaaGreat.Ax

namespace Go.Proofs.YtpdghiplnlhnfaaGreat.Ax
set_option linter.unusedSimpArgs false
set_option linter.unusedVariables false
open Go Go.Proofs
theorem allI_mem {lo hi x : Int} {l : List Int} (h : allI lo hi l = true) (hx : x ∈ l) : lo ≤ x ∧ x ≤ hi := by
  have h' : (!l.any (outI lo hi)) = true := h
  simp only [Bool.not_eq_true', List.any_eq_false] at h'
  have := h' x hx
  simp [outI] at this
  omega
theorem setup_fault {s : Setup} (h : setupOk s = true) : 0 ≤ s.fault ∧ s.fault ≤ 86400 := by
  simp only [setupOk, timesOk, Bool.and_eq_true] at h
  exact allI_mem h.1.2.1.1.2 (by simp)
def tailP (a : Rat2) (el : Int) (d : Rat2 × Int) : PerfV := if d.2 = 0 then ⟨a, el, d.1, 0⟩ else ⟨(0, 0), el, (0, 0), d.2⟩
theorem tail_elig {a : Rat2} {el : Int} {d : Rat2 × Int} : (tailP a el d).eligible = el := by unfold tailP; split <;> rfl
theorem tail_bad {a : Rat2} {el : Int} {d : Rat2 × Int} (h : (tailP a el d).err ≠ 0) : (tailP a el d).earned = (0, 0) ∧ (tailP a el d).perf = (0, 0) := by
  unfold tailP at h ⊢
  split at h
  · exact absurd rfl h
  · rename_i hd
    rw [if_neg hd]
    exact ⟨rfl, rfl⟩
/-- What is left of a week, past its sums. -/
def leftP (F : Int) (z S : Rat2 × Int) (el : Int) (m : Nat) : PerfV :=
  let all1 := takeS z S
  let lost := takeS ((0, 1), all1.2) (make (wr (F * (m : Int))) 1)
  let all2 := takeS all1 lost
  let all3 := if all2.2 = 0 then takeS all2 (subR S.1 lost.1) else all2
  let all4 := if all3.2 = 0 ∧ all3.1.1 < 0 then ((0, 1), all3.2) else all3
  let done := if el > 0 ∧ all4.2 = 0 then takeS (takeS ((0, 1), all4.2) (make el 1)) (divR all4.1 (make el 1).1) else ((0, 1), all4.2)
  tailP all4.1 el done
def selG (k : Int) (segs : List Seg) : List Seg := segs.filter (partOf k)
def eligP (k : Int) (segs : List Seg) : Int := (selG k segs).foldl (fun n g => wr (n + wr (g.to_ - g.from_))) 0
def goalsP (s : Setup) (events : List Ev) (k : Int) (segs : List Seg) : List Rat2 := (selG k segs).map fun g => (goalP s (taskOf events g)).1
def firstP (s : Setup) (events : List Ev) (k : Int) (segs : List Seg) : Rat2 × Int := (selG k segs).foldl (fun z g => takeS z ((0, 1), (goalP s (taskOf events g)).2)) ((0, 1), 0)
theorem week_fin {s : Setup} {events : List Ev} {segs : List Seg} {k : Int} : weekP s events segs k = leftP s.fault (firstP s events k segs) (sumR (goalsP s events k segs)) (eligP k segs) (faultsP events k) := rfl
theorem fin_elig {F : Int} {z S : Rat2 × Int} {el : Int} {m : Nat} : (leftP F z S el m).eligible = el := tail_elig
def clampR (p : Rat2) : Rat2 := if p.1 < 0 then (0, 1) else p
theorem fin_bad {F : Int} {z S : Rat2 × Int} {el : Int} {m : Nat} (h : (leftP F z S el m).err ≠ 0) : (leftP F z S el m).earned = (0, 0) ∧ (leftP F z S el m).perf = (0, 0) := tail_bad h
structure FinOk (F : Int) (z S : Rat2 × Int) (el : Int) (m : Nat) (D : Rat2) : Prop where
  z0 : z.2 = 0
  s0 : S.2 = 0
  slo : Lo S.1
  lo : Lo D
  eq : D.1 * S.1.2 = (S.1.1 - F * m * S.1.2) * D.2
  bd : F * m ≤ 2147483647
  earned : (leftP F z S el m).earned = clampR D
  some : 0 < el → el ≤ 2147483647 ∧ divR (clampR D) (el, 1) = ((leftP F z S el m).perf, 0)
  none : ¬ 0 < el → (leftP F z S el m).perf = (0, 1)
theorem fin_ok {F : Int} {z S : Rat2 × Int} {el : Int} {m : Nat} (hF : 0 ≤ F ∧ F ≤ 86400) (hm : m < 2097152) (hel : Fit el) (h : (leftP F z S el m).err = 0) : ∃ D, FinOk F z S el m D := by
  have hFm : -9223372036854775807 ≤ F * (m : Int) ∧ F * (m : Int) ≤ 9223372036854775807 := by
    have h1 := Int.mul_nonneg hF.1 (show (0 : Int) ≤ m by omega)
    have h2 := Int.mul_le_mul hF.2 (show (m : Int) ≤ 2097152 by omega) (by omega) (by omega)
    omega
  have hw : wr (F * (m : Int)) = F * m := wr_fit (by unfold Fit; omega)
  by_cases hz : z.2 = 0
  rotate_left
  · simp [leftP, tailP, takeS, hz] at h
  by_cases hS : S.2 = 0
  rotate_left
  · simp [leftP, tailP, takeS, hz, hS] at h
  by_cases hL : (make (F * (m : Int)) 1).2 = 0
  rotate_left
  · simp [leftP, tailP, takeS, hz, hS, hw, hL] at h
  obtain ⟨hb, hone⟩ := make_one_ok hFm hL
  by_cases hD : (subR S.1 (F * (m : Int), 1)).2 = 0
  rotate_left
  · simp [leftP, tailP, takeS, hz, hS, hw, hL, hone, hD] at h
  obtain ⟨r1, r2, r3⟩ := two_ok hD
  have l1 := rok_lo r1
  have l2 := rok_lo r2
  obtain ⟨s1, s2, s3⟩ := sub_lo l1 l2
  have hD' := hD
  rw [s1] at hD'
  obtain ⟨k1, k2⟩ := make_ok s2 s3 hD'
  rw [← s1] at k1 k2
  refine ⟨(subR S.1 (F * (m : Int), 1)).1, hz, hS, l1, k1, by simp only at k2; grind, by omega, ?_, ?_, ?_⟩
  · by_cases hneg : (subR S.1 (F * (m : Int), 1)).1.1 < 0
    · by_cases hel0 : 0 < el
      · simp [leftP, tailP, takeS, hz, hS, hw, hL, hone, hD, hneg, hel0] at h ⊢
        split at h
        · simp_all
          split at h <;> simp_all [clampR]
        · simp_all
      · simp [leftP, tailP, takeS, hz, hS, hw, hL, hone, hD, hneg, hel0, clampR]
    · by_cases hel0 : 0 < el
      · simp [leftP, tailP, takeS, hz, hS, hw, hL, hone, hD, hneg, hel0] at h ⊢
        split at h
        · simp_all
          split at h <;> simp_all [clampR]
          omega
        · simp_all
      · simp [leftP, tailP, takeS, hz, hS, hw, hL, hone, hD, hneg, hel0, clampR]
  · intro hel0
    by_cases hE : (make el 1).2 = 0
    rotate_left
    · by_cases hneg : (subR S.1 (F * (m : Int), 1)).1.1 < 0
      · simp [leftP, tailP, takeS, hz, hS, hw, hL, hone, hD, hneg, hel0, hE] at h
      · simp [leftP, tailP, takeS, hz, hS, hw, hL, hone, hD, hneg, hel0, hE] at h
    have hfe : -9223372036854775807 ≤ el ∧ el ≤ 9223372036854775807 := by unfold Fit at hel; omega
    obtain ⟨e1, e2⟩ := make_one_ok hfe hE
    refine ⟨by omega, ?_⟩
    by_cases hneg : (subR S.1 (F * (m : Int), 1)).1.1 < 0
    · have hc : clampR (subR S.1 (F * (m : Int), 1)).1 = (0, 1) := by simp [clampR, hneg]
      rw [hc]
      by_cases hq : (divR (0, 1) (el, 1)).2 = 0
      · simp [leftP, tailP, takeS, hz, hS, hw, hL, hone, hD, hneg, hel0, hE, e2, hq]
        exact Prod.ext rfl hq
      · simp [leftP, tailP, takeS, hz, hS, hw, hL, hone, hD, hneg, hel0, hE, e2, hq] at h
    · have hc : clampR (subR S.1 (F * (m : Int), 1)).1 = (subR S.1 (F * (m : Int), 1)).1 := by simp [clampR, hneg]
      rw [hc]
      by_cases hq : (divR (subR S.1 (F * (m : Int), 1)).1 (el, 1)).2 = 0
      · simp [leftP, tailP, takeS, hz, hS, hw, hL, hone, hD, hneg, hel0, hE, e2, hq]
        exact Prod.ext rfl hq
      · simp [leftP, tailP, takeS, hz, hS, hw, hL, hone, hD, hneg, hel0, hE, e2, hq] at h
  · intro hel0
    by_cases hneg : (subR S.1 (F * (m : Int), 1)).1.1 < 0
    · simp [leftP, tailP, takeS, hz, hS, hw, hL, hone, hD, hneg, hel0]
    · simp [leftP, tailP, takeS, hz, hS, hw, hL, hone, hD, hneg, hel0]
theorem clamp_lo {p : Rat2} (h : Lo p) : Lo (clampR p) ∧ 0 ≤ (clampR p).1 := by
  unfold clampR
  split
  · exact ⟨lo_zero, by decide⟩
  · exact ⟨h, by omega⟩
/-- Through one number, the lesser stays the lesser. -/
theorem div_mono {a b p q : Rat2} {n : Int} (ha : Lo a) (hb : Lo b) (hn : 0 < n ∧ n ≤ 2147483647) (h : b.1 * a.2 ≤ a.1 * b.2) (hp : divR a (n, 1) = (p, 0)) (hq : divR b (n, 1) = (q, 0)) : lessR p q = false := by
  have ln : Lo (n, 1) := ⟨by simp, by simp, by simp only; omega, by simp⟩
  obtain ⟨a1, a2, a3⟩ := div_lo ha ln hn.1
  obtain ⟨b1, b2, b3⟩ := div_lo hb ln hn.1
  rw [a1] at hp
  rw [b1] at hq
  obtain ⟨p1, p2⟩ := make_ok a2 a3 (by rw [hp])
  obtain ⟨q1, q2⟩ := make_ok b2 b3 (by rw [hq])
  rw [hp] at p1 p2
  rw [hq] at q1 q2
  simp only at p2 q2
  rw [less_lo p1 q1]
  simp only [decide_eq_false_iff_not, Int.not_lt]
  refine Int.le_of_mul_le_mul_right (a := a.2 * b.2 * n) ?_ (Int.mul_pos (Int.mul_pos ha.pos hb.pos) hn.1)
  have e1 : q.1 * p.2 * (a.2 * b.2 * n) = (b.1 * a.2) * (p.2 * q.2) := by grind
  have e2 : p.1 * q.2 * (a.2 * b.2 * n) = (a.1 * b.2) * (p.2 * q.2) := by grind
  rw [e1, e2]
  exact Int.mul_le_mul_of_nonneg_right h (Int.le_of_lt (Int.mul_pos p1.pos q1.pos))
def lessF (b : Rat2) (x : Rat2 × Int) : Prop := (b = (0, 1) ∧ (x.2 ≠ 0 ∨ x.1.1 ≤ 0)) ∨ (x.2 = 0 ∧ b = x.1)
theorem fin_fault {F : Int} {z S : Rat2 × Int} {el : Int} {m : Nat} (hF : 0 ≤ F ∧ F ≤ 86400) (hm : m < 2097151) (hel : Fit el) (hA : (leftP F z S el m).err = 0) (hB : (leftP F z S el (m + 1)).err = 0) :
    lessF (leftP F z S el (m + 1)).earned (subR (leftP F z S el m).earned (F, 1)) ∧ lessR (leftP F z S el m).perf (leftP F z S el (m + 1)).perf = false ∧ 0 ≤ (leftP F z S el (m + 1)).earned.1 := by
  obtain ⟨D, d⟩ := fin_ok hF (by omega) hel hA
  obtain ⟨E, e⟩ := fin_ok hF (by omega) hel hB
  have lF : Lo (F, 1) := ⟨by simp, by simp, by simp only; omega, by simp⟩
  have hSp := d.slo.pos
  have hDp := d.lo.pos
  have hEp := e.lo.pos
  have hdq := d.eq
  have heq : E.1 * S.1.2 = (S.1.1 - (F * m + F) * S.1.2) * E.2 := by
    have := e.eq
    rw [show ((m + 1 : Nat) : Int) = (m : Int) + 1 by omega, Int.mul_add, Int.mul_one] at this
    exact this
  -- the value of one less a fault is the other one
  have hval : (D.1 - F * D.2) * E.2 = E.1 * D.2 := by
    have : S.1.2 * ((D.1 - F * D.2) * E.2) = S.1.2 * (E.1 * D.2) := by grind
    exact Int.eq_of_mul_eq_mul_left (by omega) this
  have hmono : E.1 * D.2 ≤ D.1 * E.2 := by
    have : 0 ≤ F * D.2 * E.2 := Int.mul_nonneg (Int.mul_nonneg hF.1 (by omega)) (by omega)
    grind
  obtain ⟨cD, cD0⟩ := clamp_lo d.lo
  obtain ⟨cE, cE0⟩ := clamp_lo e.lo
  rw [d.earned, e.earned]
  refine ⟨?_, ?_, cE0⟩
  · by_cases hD : D.1 < 0
    · have hE : E.1 ≤ 0 := by
        rcases Int.lt_or_le 0 E.1 with h | h
        · have h1 := Int.mul_pos h hDp
          have h2 := Int.mul_neg_of_neg_of_pos hD hEp
          omega
        · exact h
      have hcE : clampR E = (0, 1) := by
        unfold clampR
        split
        · rfl
        · have e0 : E.1 = 0 := by omega
          have := (red_uniq (a := E.1) (b := E.2) (a' := 0) (b' := 1) e.lo.pos (by omega) e.lo.cop (by decide) (by rw [e0]; simp)).2
          exact Prod.ext e0 this
      have hcD : clampR D = (0, 1) := by simp [clampR, hD]
      rw [hcE, hcD]
      left
      refine ⟨rfl, ?_⟩
      by_cases hx : (subR (0, 1) (F, 1)).2 = 0
      · right
        obtain ⟨s1, s2, s3⟩ := sub_lo lo_zero lF
        rw [s1] at hx ⊢
        obtain ⟨k1, k2⟩ := make_ok s2 s3 hx
        simp only at k2
        have hk := k1.pos
        rcases Int.lt_or_le 0 (make (0 * 1 - F * 1) (1 * 1)).1.1 with h | h
        · have := Int.mul_nonneg hF.1 (Int.le_of_lt hk)
          grind
        · exact h
      · exact .inl hx
    · have hcD : clampR D = D := by simp [clampR, hD]
      rw [hcD]
      obtain ⟨s1, s2, s3⟩ := sub_lo d.lo lF
      have hsame : subR D (F, 1) = (E, 0) := by
        rw [s1, ← make_lo e.lo]
        have := e.lo.num; have := e.lo.den
        refine make_same s2 s3 (by omega) (by omega) ?_
        simp only
        grind
      rw [hsame]
      by_cases hE : E.1 < 0
      · left
        exact ⟨by simp [clampR, hE], .inr (by simp only; omega)⟩
      · right
        exact ⟨rfl, by simp [clampR, hE]⟩
  · by_cases hn : 0 < el
    · obtain ⟨n1, n2⟩ := d.some hn
      obtain ⟨_, n3⟩ := e.some hn
      refine div_mono cD cE ⟨hn, n1⟩ ?_ n2 n3
      unfold clampR
      by_cases h1 : E.1 < 0
      · rw [if_pos h1]
        by_cases h2 : D.1 < 0
        · rw [if_pos h2]; decide
        · rw [if_neg h2]
          simp only
          omega
      · rw [if_neg h1]
        by_cases h2 : D.1 < 0
        · have h3 := Int.mul_nonneg (Int.not_lt.1 h1) (Int.le_of_lt hDp)
          have h4 := Int.mul_neg_of_neg_of_pos h2 hEp
          omega
        · rw [if_neg h2]
          exact hmono
    · rw [d.none hn, e.none hn]
      decide
/-! One fault more among a worker's events. -/
def noF (e : Ev) : Bool := e.kind != 7
theorem stream_noF {s : Setup} {a b : List Ev} {w : Int} (h : a.filter noF = b.filter noF) : streamP s a w = streamP s b w := by
  have e : ∀ l : List Ev, l.filter (selP s w) = (l.filter noF).filter (selP s w) := fun l => by
    rw [List.filter_filter]
    refine List.filter_congr fun x _ => ?_
    unfold selP noF
    cases x.worker == w <;> cases x.kind != 7 <;> cases evOk s x <;> rfl
  unfold streamP
  rw [go_sel, go_sel, e a, e b, h]
theorem task_noF {a b : List Ev} {g : Seg} (h : a.filter noF = b.filter noF) : taskOf a g = taskOf b g := by
  have e : ∀ l : List Ev, l.find? (isTask g.id) = (l.filter noF).find? (isTask g.id) := fun l => by
    rw [List.find?_filter]
    congr 1
    funext x
    unfold isTask noF
    by_cases h3 : x.kind = 3
    · simp [h3]; rfl
    · simp [h3]
  unfold taskOf
  rw [e a, e b, h]
theorem own_eq {s : Setup} {w : Int} {l : List Ev} : ownP s w l = stabE (l.filter fun e => !notOwn s w e) := by rw [ownP, stabE_filter]
theorem own_noF {s : Setup} {w : Int} {l : List Ev} {f : Ev} (hk : f.kind = 7) : (ownP s w (l ++ [f])).filter noF = (ownP s w l).filter noF := by
  rw [own_eq, own_eq, ← stabE_filter, ← stabE_filter, List.filter_append, List.filter_append]
  have : List.filter noF (List.filter (fun e => !notOwn s w e) [f]) = [] := by
    refine List.filter_eq_nil_iff.2 fun x hx => ?_
    have hx := (List.mem_filter.1 hx).1
    rw [List.mem_singleton] at hx
    rw [hx]; simp [noF, hk]
  rw [this, List.append_nil]
theorem faults_len {s : Setup} {w k : Int} {l : List Ev} : faultsP (ownP s w l) k = ((l.filter fun e => !notOwn s w e).filter (isFault k)).length := by
  rw [faultsP, own_eq]
  exact ((stabE_is_perm _).filter _).length_eq
theorem faults_snoc {s : Setup} {k : Int} {l : List Ev} {f : Ev} (hk : f.kind = 7) (ho : evOk s f = true) : faultsP (ownP s f.worker (l ++ [f])) k = faultsP (ownP s f.worker l) k + if weekI f.at_ = k then 1 else 0 := by
  rw [faults_len, faults_len, List.filter_append, List.filter_append, List.length_append]
  congr 1
  have : List.filter (fun e => !notOwn s f.worker e) [f] = [f] := by simp [notOwn, ho]
  rw [this]
  by_cases h : weekI f.at_ = k
  · simp [isFault, hk, h]
  · simp [isFault, hk, h]
theorem perf_snoc {s : Setup} {l : List Ev} {f : Ev} {k : Int} (hs : setupOk s = true) (hk : f.kind = 7) (ho : evOk s f = true) :
    ∃ z S el m, Fit el ∧ m ≤ l.length ∧ perfP s l f.worker k = leftP s.fault z S el m ∧ perfP s (l ++ [f]) f.worker k = leftP s.fault z S el (m + if weekI f.at_ = k then 1 else 0) := by
  have h1 := own_noF (s := s) (w := f.worker) (l := l) hk
  have h2 : (streamP s (ownP s f.worker (l ++ [f])) f.worker).1 = (streamP s (ownP s f.worker l) f.worker).1 := by rw [stream_noF h1]
  refine ⟨firstP s (ownP s f.worker l) k (streamP s (ownP s f.worker l) f.worker).1, sumR (goalsP s (ownP s f.worker l) k (streamP s (ownP s f.worker l) f.worker).1), eligP k (streamP s (ownP s f.worker l) f.worker).1, faultsP (ownP s f.worker l) k, ?_, ?_, ?_, ?_⟩
  · unfold eligP
    have : ∀ (L : List Seg) (n : Int), Fit n → Fit (L.foldl (fun n g => wr (n + wr (g.to_ - g.from_))) n) := fun L => by
      induction L with
      | nil => exact fun n h => h
      | cons g L ih => exact fun n _ => ih _ (fit_wr _)
    exact this _ _ (by unfold Fit; omega)
  · rw [faults_len]
    exact Nat.le_trans (List.length_filter_le _ _) (List.length_filter_le _ _)
  · rw [perfP, if_pos hs, week_fin]
  · rw [perfP, if_pos hs, week_fin, h2, ← faults_snoc hk ho]
    have e1 : ∀ g, taskOf (ownP s f.worker (l ++ [f])) g = taskOf (ownP s f.worker l) g := fun g => task_noF h1
    unfold firstP goalsP
    simp only [e1]
/-- What one fault more does to a week, and to another one. -/
theorem perf_fault {s : Setup} {l : List Ev} {f : Ev} {k : Int} (hs : setupOk s = true) (hk : f.kind = 7) (ho : evOk s f = true) (hl : l.length < 2097151) :
    (perfP s l f.worker k).eligible = (perfP s (l ++ [f]) f.worker k).eligible ∧
    (weekI f.at_ ≠ k → perfP s l f.worker k = perfP s (l ++ [f]) f.worker k) ∧
    (weekI f.at_ = k → (perfP s l f.worker k).err = 0 → (perfP s (l ++ [f]) f.worker k).err = 0 →
      lessF (perfP s (l ++ [f]) f.worker k).earned (subR (perfP s l f.worker k).earned (s.fault, 1)) ∧ lessR (perfP s l f.worker k).perf (perfP s (l ++ [f]) f.worker k).perf = false ∧ 0 ≤ (perfP s (l ++ [f]) f.worker k).earned.1) := by
  obtain ⟨z, S, el, m, h1, h2, h3, h4⟩ := perf_snoc (l := l) (k := k) hs hk ho
  rw [h3, h4]
  refine ⟨by rw [fin_elig, fin_elig], fun h => by rw [if_neg h]; rfl, fun h ha hb => ?_⟩
  rw [if_pos h] at hb ⊢
  exact fin_fault (setup_fault hs) (by omega) h1 ha hb
theorem lo_fit {p : Rat2} (h : Lo p) : FitR p := by
  have := h.num; have := h.den; have := h.pos
  exact ⟨by unfold Fit; omega, by unfold Fit; omega⟩
theorem left_lo {F : Int} {z S : Rat2 × Int} {el : Int} {m : Nat} (hF : 0 ≤ F ∧ F ≤ 86400) (hm : m < 2097152) (hel : Fit el) (h : (leftP F z S el m).err = 0) : Lo (leftP F z S el m).earned ∧ Lo (leftP F z S el m).perf := by
  obtain ⟨D, d⟩ := fin_ok hF hm hel h
  have c := (clamp_lo d.lo).1
  rw [d.earned]
  refine ⟨c, ?_⟩
  by_cases hn : 0 < el
  · obtain ⟨n1, n2⟩ := d.some hn
    have ln : Lo (el, 1) := ⟨by simp, by simp, by simp only; omega, by simp⟩
    obtain ⟨a1, a2, a3⟩ := div_lo c ln hn
    rw [a1] at n2
    have := (make_ok a2 a3 (by rw [n2])).1
    rw [n2] at this
    exact this
  · rw [d.none hn]; exact lo_zero
theorem elig_fit {k : Int} {segs : List Seg} : Fit (eligP k segs) := by
  unfold eligP
  have : ∀ (L : List Seg) (n : Int), Fit n → Fit (L.foldl (fun n g => wr (n + wr (g.to_ - g.from_))) n) := fun L => by
    induction L with
    | nil => exact fun n h => h
    | cons g L ih => exact fun n _ => ih _ (fit_wr _)
  exact this _ _ (by unfold Fit; omega)
theorem faults_le {s : Setup} {w k : Int} {l : List Ev} : faultsP (ownP s w l) k ≤ l.length := by
  rw [faults_len]
  exact Nat.le_trans (List.length_filter_le _ _) (List.length_filter_le _ _)
theorem perf_lo {s : Setup} {l : List Ev} {w k : Int} (hs : setupOk s = true) (hl : l.length < 2097151) (h : (perfP s l w k).err = 0) : Lo (perfP s l w k).earned ∧ Lo (perfP s l w k).perf := by
  rw [perfP, if_pos hs, week_fin] at h ⊢
  have := faults_le (s := s) (w := w) (k := k) (l := l)
  exact left_lo (setup_fault hs) (by omega) elig_fit h
end Go.Proofs.YtpdghiplnlhnfaaGreat.Ax
