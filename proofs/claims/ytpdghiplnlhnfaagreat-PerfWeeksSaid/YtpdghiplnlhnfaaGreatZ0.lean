/-
  Joined: WeeksP. Nothing is proved here of a statement.
-/
import Derived.Test.YtpdghiplnlhnfaaGreatNL
import Derived.Test.YtpdghiplnlhnfaaGreatMQ
namespace Go.Proofs.YtpdghiplnlhnfaaGreat.Ax
set_option linter.unusedSimpArgs false
set_option linter.unusedVariables false
open Go Go.Proofs
theorem stab_of_srt : ∀ {l : List Ev}, Srt l → stabE l = l
  | [], _ => rfl
  | x :: l, ⟨h1, h2⟩ => by
    rw [stabE, stab_of_srt h2]
    cases l with
    | nil => rfl
    | cons y b => rw [insE, h1 y (by simp)]; rfl
theorem stab_stab (l : List Ev) : stabE (stabE l) = stabE l := stab_of_srt (stabE_srt l)
/-- A worker's own events, in order, make the same sessions. -/
theorem own_stream_any {s : Setup} {l : List Ev} {w : Int} : streamP s (ownP s w l) w = streamP s l w := by
  have h : stabE ((ownP s w l).filter (selP s w)) = stabE (l.filter (selP s w)) := by
    rw [own_eq, ← stabE_filter, stab_stab, List.filter_filter]
    congr 1
    refine List.filter_congr fun e _ => ?_
    unfold selP notOwn
    by_cases hw : e.worker = w
    · simp [hw]
    · simp [hw]
  unfold streamP
  rw [go_sel, go_sel, h]
def sumS (L : List Seg) : Int := (L.map fun g => g.to_ - g.from_).sum
theorem sumS_nn {L : List Seg} (h : ∀ g ∈ L, g.from_ < g.to_) : 0 ≤ sumS L ∧ (L ≠ [] → 0 < sumS L) := by
  induction L with
  | nil => simp [sumS]
  | cons g L ih =>
    have h1 := ih fun x hx => h x (.tail _ hx)
    have h2 := h g (.head _)
    refine ⟨?_, fun _ => ?_⟩ <;> · simp only [sumS, List.map_cons, List.sum_cons] at *; omega
theorem sumS_sub {p : Seg → Bool} {L : List Seg} (h : ∀ g ∈ L, g.from_ < g.to_) : sumS (L.filter p) ≤ sumS L := by
  induction L with
  | nil => simp
  | cons g L ih =>
    have h1 := ih fun x hx => h x (.tail _ hx)
    have h2 := h g (.head _)
    rw [List.filter_cons]
    split <;> · simp only [sumS, List.map_cons, List.sum_cons] at *; omega
theorem sumS_bd {hi : Int} : ∀ {L : List Seg} {lo : Int}, lo ≤ hi → (∀ g ∈ L, lo ≤ g.from_ ∧ g.from_ < g.to_ ∧ g.to_ ≤ hi) → L.Pairwise (fun a b => a.to_ ≤ b.from_) → sumS L ≤ hi - lo
  | [], lo, h, _, _ => by simp [sumS]; omega
  | g :: L, lo, h, h1, h2 => by
    rw [List.pairwise_cons] at h2
    have h3 := h1 g (.head _)
    have := sumS_bd (L := L) (lo := g.to_) h3.2.2 (fun x hx => ⟨h2.1 x hx, (h1 x (.tail _ hx)).2⟩) h2.2
    simp only [sumS, List.map_cons, List.sum_cons] at *
    omega
theorem rise_sum {L : List Seg} (h : RiseTo L 32054400) : sumS L ≤ 32054400 := by
  have := sumS_bd (hi := 32054400) (lo := 0) (by decide) h.each h.gap
  omega
theorem fold_sum : ∀ (L : List Seg) (n : Int), (∀ g ∈ L, 0 ≤ g.from_ ∧ g.from_ < g.to_ ∧ g.to_ ≤ 32054400) → 0 ≤ n → n + sumS L ≤ 4611686018427387904 → L.foldl (fun n g => wr (n + wr (g.to_ - g.from_))) n = n + sumS L
  | [], n, _, _, _ => by simp [sumS]
  | g :: L, n, hg, h0, hb => by
    have h1 := hg g (.head _)
    have h2 := (sumS_nn (L := L) fun x hx => (hg x (.tail _ hx)).2.1).1
    have hs : sumS (g :: L) = (g.to_ - g.from_) + sumS L := by simp [sumS]
    rw [hs] at hb ⊢
    rw [List.foldl_cons, wr_fit (n := g.to_ - g.from_) (by unfold Fit; omega), wr_fit (n := n + (g.to_ - g.from_)) (by unfold Fit; omega), fold_sum L _ (fun x hx => hg x (.tail _ hx)) (by omega) (by omega)]
    omega
theorem elig_sum {L : List Seg} (h : RiseTo L 32054400) (k : Int) : eligP k L = sumS (L.filter (partOf k)) := by
  have h1 := rise_sum h
  have h2 := sumS_sub (p := partOf k) fun g hg => (h.each g hg).2.1
  unfold eligP selG
  rw [fold_sum _ 0 (fun g hg => h.each g (List.mem_filter.1 hg).1) (by decide) (by omega)]
  omega
/-- The direct parts of the first weeks. -/
def untilP (w : Int) (g : Seg) : Bool := g.kind == 1 && decide (weekI g.from_ < w)
theorem week_range (n : Int) : 0 ≤ weekI n ∧ weekI n < 53 := by
  unfold weekI ofI clampI
  have h0 : 0 ≤ min (max n 0) 32054399 ∧ min (max n 0) 32054399 ≤ 32054399 := by omega
  rw [Int.tdiv_eq_ediv_of_nonneg h0.1, wr_fit (by unfold Fit; omega)]
  omega
theorem until_zero (L : List Seg) : L.filter (untilP 0) = [] := by
  rw [List.filter_eq_nil_iff]
  intro g _
  have := (week_range g.from_).1
  unfold untilP
  simp
  intro; omega
theorem until_all (L : List Seg) : L.filter (untilP 53) = L.filter fun g => g.kind == 1 := by
  refine List.filter_congr fun g _ => ?_
  have := (week_range g.from_).2
  unfold untilP
  simp [this]
theorem until_succ (w : Int) : ∀ L : List Seg, sumS (L.filter (untilP (w + 1))) = sumS (L.filter (untilP w)) + sumS (L.filter (partOf w))
  | [] => by simp [sumS]
  | g :: L => by
    have ih := until_succ w L
    have hk : ∀ (p : Seg → Bool), sumS ((g :: L).filter p) = (if p g then g.to_ - g.from_ else 0) + sumS (L.filter p) := fun p => by
      rw [List.filter_cons]
      split <;> simp [sumS]
    rw [hk, hk, hk, ih]
    have : (if untilP (w + 1) g then g.to_ - g.from_ else 0) = (if untilP w g then g.to_ - g.from_ else 0) + (if partOf w g then g.to_ - g.from_ else 0) := by
      unfold untilP partOf
      by_cases h1 : g.kind = 1
      · rcases Int.lt_trichotomy (weekI g.from_) w with h2 | h2 | h2
        · have h3 : weekI g.from_ ≠ w := by omega
          have h4 : weekI g.from_ < w + 1 := by omega
          simp [h1, h2, h3, h4]
        · have h4 : w < w + 1 := by omega
          simp [h1, h2, h4]
        · have h3 : weekI g.from_ ≠ w := by omega
          have h4 : ¬ weekI g.from_ < w + 1 := by omega
          have h5 : ¬ weekI g.from_ < w := by omega
          simp [h1, h3, h4, h5]
      · simp [h1]
    omega
theorem only_size {L : List Seg} (h : RiseTo L 32054400) : sizeS (normS (onlyP L 1)) = sumS (L.filter fun g => g.kind == 1) := by
  unfold onlyP
  have hmem : ∀ x ∈ (L.filter fun g => g.kind == 1).map spS, 0 ≤ x.from_ ∧ x.from_ < x.to_ ∧ x.to_ ≤ 32054400 := fun x hx => by
    obtain ⟨g, hg, rfl⟩ := List.mem_map.1 hx
    exact h.each g (List.mem_filter.1 hg).1
  have hgap : ((L.filter fun g => g.kind == 1).map spS).Pairwise fun a b => a.to_ ≤ b.from_ := by
    rw [List.pairwise_map]
    exact h.gap.sublist List.filter_sublist
  have h1 := norm_size hmem hgap
  have h2 := norm_size (l := normS ((L.filter fun g => g.kind == 1).map spS)) normS_in ((normS_plain _).gap.imp fun h => by omega)
  rw [h2, h1]
  unfold sizeS sumS
  rw [List.map_map]
  rfl
/-- A week without direct work. -/
theorem left_none {F : Int} {m : Nat} (hF : 0 ≤ F ∧ F ≤ 86400) (hm : m ≤ 60) : leftP F ((0, 1), 0) ((0, 1), 0) 0 m = ⟨(0, 1), 0, (0, 1), 0⟩ := by
  have h1 : wr (F * (m : Int)) = F * m := wr_fit (by
    have : F * (m : Int) ≤ 86400 * 60 := Int.mul_le_mul hF.2 (by omega) (by omega) (by decide)
    have : 0 ≤ F * (m : Int) := Int.mul_nonneg hF.1 (by omega)
    unfold Fit; omega)
  have hb : 0 ≤ F * (m : Int) ∧ F * (m : Int) ≤ 5184000 := by
    refine ⟨Int.mul_nonneg hF.1 (by omega), ?_⟩
    have : F * (m : Int) ≤ 86400 * 60 := Int.mul_le_mul hF.2 (by omega) (by omega) (by decide)
    omega
  have h2 : make (F * (m : Int)) 1 = ((F * m, 1), 0) := make_one (by omega)
  have h3 : subR (0, 1) (F * (m : Int), 1) = ((-(F * m), 1), 0) := by
    have hl : Lo (F * (m : Int), 1) := ⟨by simp, by simp, by simp only; omega, by simp⟩
    rw [(sub_lo lo_zero hl).1]
    have : (0 : Int) * 1 - F * m * 1 = -(F * m) := by omega
    simp only
    rw [this, Int.one_mul]
    exact make_one (by omega)
  unfold leftP
  simp only [h1, takeS, if_true, h2, h3]
  by_cases hz : -(F * (m : Int)) < 0
  · have hz2 : 0 < F * (m : Int) := by omega
    simp [hz2, tailP]
  · have hz2 : F * (m : Int) = 0 := by omega
    simp [hz2, tailP]
theorem sumR_nil : sumR [] = ((0, 1), 0) := rfl
theorem week_none {s : Setup} {l : List Ev} {w k : Int} (hs : setupOk s = true) (hl : l.length ≤ 60) (h : (streamP s l w).1.filter (partOf k) = []) : perfP s l w k = ⟨(0, 1), 0, (0, 1), 0⟩ := by
  unfold perfP
  rw [if_pos hs, own_stream_any, week_fin]
  have h1 : goalsP s (ownP s w l) k (streamP s l w).1 = [] := by unfold goalsP selG; rw [h]; rfl
  have h2 : firstP s (ownP s w l) k (streamP s l w).1 = ((0, 1), 0) := by unfold firstP selG; rw [h]; rfl
  have h3 : eligP k (streamP s l w).1 = 0 := by unfold eligP selG; rw [h]; rfl
  rw [h1, h2, h3, sumR_nil]
  exact left_none (setup_fault hs) (Nat.le_trans faults_le hl)
theorem week_elig {s : Setup} {l : List Ev} {w k : Int} (hs : setupOk s = true) : (perfP s l w k).eligible = sumS ((streamP s l w).1.filter (partOf k)) := by
  obtain ⟨hr, _⟩ := stream_rise (s := s) (l := l) (w := w) hs
  unfold perfP
  rw [if_pos hs, own_stream_any, week_fin, fin_elig, elig_sum hr]
theorem elig_pos {L : List Seg} (h : RiseTo L 32054400) (k : Int) : (0 ≤ sumS (L.filter (partOf k)) ∧ sumS (L.filter (partOf k)) ≤ 32054400) ∧ decide (sumS (L.filter (partOf k)) > 0) = L.any (partOf k) := by
  have h0 := sumS_nn (L := L.filter (partOf k)) fun g hg => (h.each g (List.mem_filter.1 hg).1).2.1
  have h1 := rise_sum h
  have h2 := sumS_sub (p := partOf k) fun g hg => (h.each g hg).2.1
  refine ⟨⟨h0.1, by omega⟩, ?_⟩
  cases ha : L.any (partOf k)
  · have : L.filter (partOf k) = [] := by
      rw [List.filter_eq_nil_iff]
      intro g hg hp
      rw [List.any_eq_false] at ha
      exact ha g hg hp
    rw [this]; rfl
  · obtain ⟨g, hg, hp⟩ := List.any_eq_true.1 ha
    have : L.filter (partOf k) ≠ [] := List.ne_nil_of_mem (List.mem_filter.2 ⟨hg, hp⟩)
    simpa using h0.2 this
end Go.Proofs.YtpdghiplnlhnfaaGreat.Ax
