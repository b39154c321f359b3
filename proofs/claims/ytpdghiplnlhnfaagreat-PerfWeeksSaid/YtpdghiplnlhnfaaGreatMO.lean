/-
  Joined: NormP, RiseP, ClockP, AloneP. Nothing is proved here of a statement.
-/
import Derived.Test.YtpdghiplnlhnfaaGreatMN
namespace Go.Proofs.YtpdghiplnlhnfaaGreat.Ax
set_option linter.unusedSimpArgs false
set_option linter.unusedVariables false
def leS (a b : Spn) : Prop := a.from_ ≤ b.from_
def cleanS (s : Spn) : Spn := ⟨max s.from_ 0, min s.to_ 32054400⟩
def goodS (l : List Spn) : List Spn := (l.map cleanS).filter fun s => decide (s.from_ < s.to_)
def merge1 : Spn → List Spn → List Spn
  | c, [] => [c]
  | c, s :: r => if s.from_ ≤ c.to_ then merge1 ⟨c.from_, max c.to_ s.to_⟩ r else c :: merge1 s r
def mergeS : List Spn → List Spn
  | [] => []
  | s :: r => merge1 s r
def sortS (l : List Spn) : List Spn := l.mergeSort fun a b => decide (a.from_ ≤ b.from_)
def normS (l : List Spn) : List Spn := mergeS (sortS (goodS l))
def Cov (l : List Spn) (t : Int) : Prop := ∃ s ∈ l, s.from_ ≤ t ∧ t < s.to_
structure PlainS (l : List Spn) : Prop where
  pos : ∀ s ∈ l, s.from_ < s.to_
  gap : l.Pairwise fun a b => a.to_ < b.from_
theorem cov_cons {x : Spn} {l : List Spn} {t : Int} : Cov (x :: l) t ↔ (x.from_ ≤ t ∧ t < x.to_) ∨ Cov l t := by
  simp [Cov]
theorem cov_nil {t : Int} : ¬ Cov [] t := fun ⟨_, h, _⟩ => by cases h
theorem cov_app {a b : List Spn} {t : Int} : Cov (a ++ b) t ↔ Cov a t ∨ Cov b t := by
  simp only [Cov, List.mem_append]
  constructor
  · rintro ⟨s, h | h, k⟩
    · exact .inl ⟨s, h, k⟩
    · exact .inr ⟨s, h, k⟩
  · rintro (⟨s, h, k⟩ | ⟨s, h, k⟩)
    · exact ⟨s, .inl h, k⟩
    · exact ⟨s, .inr h, k⟩
theorem PlainS.tail {x : Spn} {l : List Spn} (h : PlainS (x :: l)) : PlainS l := ⟨fun s k => h.pos s (.tail _ k), (List.pairwise_cons.1 h.gap).2⟩
theorem PlainS.above {x : Spn} {l : List Spn} (h : PlainS (x :: l)) {t : Int} (k : Cov l t) : x.to_ < t := by
  obtain ⟨s, h1, h2, _⟩ := k
  have := (List.pairwise_cons.1 h.gap).1 s h1
  omega
theorem PlainS.first {x : Spn} {l : List Spn} (h : PlainS (x :: l)) {t : Int} (k : Cov (x :: l) t) : x.from_ ≤ t := by
  have hp := h.pos x (.head _)
  rcases cov_cons.1 k with k | k
  · exact k.1
  · have := h.above k; omega
/-- Plain spans of the same seconds are the same. -/
theorem plain_eq : ∀ {a b : List Spn}, PlainS a → PlainS b → (∀ t, Cov a t ↔ Cov b t) → a = b
  | [], [], _, _, _ => rfl
  | [], y :: b, _, hb, h => by
    have hp := hb.pos y (.head _)
    exact absurd ((h y.from_).2 (cov_cons.2 (.inl ⟨Int.le_refl _, hp⟩))) cov_nil
  | x :: a, [], ha, _, h => by
    have hp := ha.pos x (.head _)
    exact absurd ((h x.from_).1 (cov_cons.2 (.inl ⟨Int.le_refl _, hp⟩))) cov_nil
  | x :: a, y :: b, ha, hb, h => by
    have px := ha.pos x (.head _)
    have py := hb.pos y (.head _)
    have f1 := hb.first ((h x.from_).1 (cov_cons.2 (.inl ⟨Int.le_refl _, px⟩)))
    have f2 := ha.first ((h y.from_).2 (cov_cons.2 (.inl ⟨Int.le_refl _, py⟩)))
    have e1 : ¬ x.to_ < y.to_ := fun k => by
      have := (h x.to_).2 (cov_cons.2 (.inl ⟨by omega, k⟩))
      rcases cov_cons.1 this with q | q
      · omega
      · have := ha.above q; omega
    have e2 : ¬ y.to_ < x.to_ := fun k => by
      have := (h y.to_).1 (cov_cons.2 (.inl ⟨by omega, k⟩))
      rcases cov_cons.1 this with q | q
      · omega
      · have := hb.above q; omega
    have exy : x = y := by
      cases x; cases y
      simp only [Spn.mk.injEq] at *
      omega
    subst exy
    refine congrArg _ (plain_eq ha.tail hb.tail fun t => ⟨fun k => ?_, fun k => ?_⟩)
    · rcases cov_cons.1 ((h t).1 (cov_cons.2 (.inr k))) with q | q
      · have := ha.above k; omega
      · exact q
    · rcases cov_cons.1 ((h t).2 (cov_cons.2 (.inr k))) with q | q
      · have := hb.above k; omega
      · exact q
theorem merge1_plain : ∀ {c : Spn} {r : List Spn}, c.from_ < c.to_ → (∀ s ∈ r, s.from_ < s.to_) → r.Pairwise leS → (∀ s ∈ r, c.from_ ≤ s.from_) →
    PlainS (merge1 c r) ∧ (∀ s ∈ merge1 c r, c.from_ ≤ s.from_) ∧ ∀ t, Cov (merge1 c r) t ↔ Cov (c :: r) t
  | c, [], hc, _, _, _ => by
    have e : merge1 c [] = [c] := by simp [merge1]
    rw [e]
    exact ⟨⟨fun s h => by simp at h; subst h; exact hc, by simp⟩, fun s h => by simp at h; subst h; exact Int.le_refl _, fun t => Iff.rfl⟩
  | c, s :: r, hc, hp, hs, hf => by
    have hps := hp s (.head _)
    have hpr : ∀ q ∈ r, q.from_ < q.to_ := fun q h => hp q (.tail _ h)
    obtain ⟨hs1, hs2⟩ := List.pairwise_cons.1 hs
    have hcs := hf s (.head _)
    unfold merge1
    split
    · rename_i hle
      have ih := merge1_plain (c := ⟨c.from_, max c.to_ s.to_⟩) (r := r) (by simp only; omega) hpr hs2 (fun q h => by have := hs1 q h; simp only [leS] at this ⊢; omega)
      refine ⟨ih.1, ih.2.1, fun t => (ih.2.2 t).trans ?_⟩
      rw [cov_cons, cov_cons, cov_cons]
      simp only
      constructor
      · rintro (k | k)
        · by_cases h2 : t < c.to_
          · exact .inl ⟨k.1, h2⟩
          · exact .inr (.inl ⟨by omega, by omega⟩)
        · exact .inr (.inr k)
      · rintro (k | k | k)
        · exact .inl ⟨k.1, by omega⟩
        · exact .inl ⟨by omega, by omega⟩
        · exact .inr k
    · rename_i hle
      have ih := merge1_plain (c := s) (r := r) hps hpr hs2 hs1
      refine ⟨⟨fun q h => ?_, List.pairwise_cons.2 ⟨fun q h => ?_, ih.1.gap⟩⟩, fun q h => ?_, fun t => ?_⟩
      · rcases List.mem_cons.1 h with rfl | h
        · exact hc
        · exact ih.1.pos q h
      · have := ih.2.1 q h; omega
      · rcases List.mem_cons.1 h with rfl | h
        · exact Int.le_refl _
        · have := ih.2.1 q h; omega
      · rw [cov_cons, cov_cons, ih.2.2 t]
theorem mergeS_plain {l : List Spn} (hp : ∀ s ∈ l, s.from_ < s.to_) (hs : l.Pairwise leS) : PlainS (mergeS l) ∧ ∀ t, Cov (mergeS l) t ↔ Cov l t := by
  cases l with
  | nil => exact ⟨⟨fun _ h => (by cases h), List.Pairwise.nil⟩, fun _ => Iff.rfl⟩
  | cons s r =>
    have := merge1_plain (hp s (.head _)) (fun q h => hp q (.tail _ h)) (List.pairwise_cons.1 hs).2 (List.pairwise_cons.1 hs).1
    exact ⟨this.1, this.2.2⟩
theorem sortS_perm (l : List Spn) : (sortS l).Perm l := List.mergeSort_perm l _
theorem sortS_sorted (l : List Spn) : (sortS l).Pairwise leS := by
  have := List.pairwise_mergeSort (le := fun a b : Spn => decide (a.from_ ≤ b.from_)) (fun a b c h1 h2 => by simp at *; omega) (fun a b => by simp; omega) l
  exact this.imp fun h => by simpa [leS] using h
theorem cov_perm {a b : List Spn} (h : a.Perm b) (t : Int) : Cov a t ↔ Cov b t := by
  simp only [Cov]
  exact ⟨fun ⟨s, k, r⟩ => ⟨s, h.mem_iff.1 k, r⟩, fun ⟨s, k, r⟩ => ⟨s, h.mem_iff.2 k, r⟩⟩
theorem goodS_pos {l : List Spn} : ∀ s ∈ goodS l, s.from_ < s.to_ := fun s h => by
  simp only [goodS, List.mem_filter, decide_eq_true_eq] at h
  exact h.2
/-- Whichever order among those that begin alike. -/
theorem merge_any {l m : List Spn} (hp : m.Perm (goodS l)) (hs : m.Pairwise leS) : mergeS m = normS l := by
  have p1 : ∀ s ∈ m, s.from_ < s.to_ := fun s h => goodS_pos s (hp.mem_iff.1 h)
  have p2 : ∀ s ∈ sortS (goodS l), s.from_ < s.to_ := fun s h => goodS_pos s ((sortS_perm _).mem_iff.1 h)
  have h1 := mergeS_plain p1 hs
  have h2 := mergeS_plain p2 (sortS_sorted (goodS l))
  refine plain_eq h1.1 h2.1 fun t => ?_
  rw [h1.2, show normS l = mergeS (sortS (goodS l)) from rfl, h2.2, cov_perm hp, cov_perm (sortS_perm (goodS l))]
theorem normS_plain (l : List Spn) : PlainS (normS l) := (mergeS_plain (fun s h => goodS_pos s ((sortS_perm _).mem_iff.1 h)) (sortS_sorted (goodS l))).1
theorem normS_cov (l : List Spn) (t : Int) : Cov (normS l) t ↔ (0 ≤ t ∧ t < 32054400 ∧ Cov l t) := by
  have h2 := (mergeS_plain (fun s h => goodS_pos s ((sortS_perm _).mem_iff.1 h)) (sortS_sorted (goodS l))).2 t
  rw [show normS l = mergeS (sortS (goodS l)) from rfl, h2, cov_perm (sortS_perm _)]
  simp only [Cov, goodS, List.mem_filter, List.mem_map, decide_eq_true_eq]
  constructor
  · rintro ⟨s, ⟨⟨x, hx, rfl⟩, h3⟩, h4, h5⟩
    simp only [cleanS] at h4 h5
    exact ⟨by omega, by omega, x, hx, by omega, by omega⟩
  · rintro ⟨h4, h5, x, hx, h6, h7⟩
    exact ⟨cleanS x, ⟨⟨x, hx, rfl⟩, by simp only [cleanS]; omega⟩, by simp only [cleanS]; omega, by simp only [cleanS]; omega⟩
theorem normS_same {a b : List Spn} (h : ∀ t, 0 ≤ t → t < 32054400 → (Cov a t ↔ Cov b t)) : normS a = normS b :=
  plain_eq (normS_plain a) (normS_plain b) fun t => by
    rw [normS_cov, normS_cov]
    constructor
    · rintro ⟨h1, h2, h3⟩; exact ⟨h1, h2, (h t h1 h2).1 h3⟩
    · rintro ⟨h1, h2, h3⟩; exact ⟨h1, h2, (h t h1 h2).2 h3⟩
def sizeS (l : List Spn) : Int := (l.map fun s => s.to_ - s.from_).sum
theorem merge1_size : ∀ {c : Spn} {r : List Spn}, (∀ s ∈ r, s.from_ < s.to_) → c.from_ < c.to_ → (c :: r).Pairwise (fun a b => a.to_ ≤ b.from_) → sizeS (merge1 c r) = sizeS (c :: r)
  | c, [], _, _, _ => rfl
  | c, s :: r, hp, hc, h => by
    have hps := hp s (.head _)
    have hpr : ∀ q ∈ r, q.from_ < q.to_ := fun q h => hp q (.tail _ h)
    obtain ⟨h1, h2⟩ := List.pairwise_cons.1 h
    have hcs := h1 s (.head _)
    unfold merge1
    split
    · rename_i hle
      rw [merge1_size (c := ⟨c.from_, max c.to_ s.to_⟩) hpr (by simp only; omega) (by
        refine List.pairwise_cons.2 ⟨fun q hq => ?_, (List.pairwise_cons.1 h2).2⟩
        have := (List.pairwise_cons.1 h2).1 q hq
        simp only
        omega)]
      simp only [sizeS, List.map_cons, List.sum_cons]
      omega
    · have := merge1_size (c := s) hpr hps h2
      simp only [sizeS, List.map_cons, List.sum_cons] at this ⊢
      rw [this]
theorem filter_all {α : Type} {p : α → Bool} : ∀ {l : List α}, (∀ x ∈ l, p x = true) → l.filter p = l
  | [], _ => rfl
  | x :: l, h => by rw [List.filter_cons, if_pos (h x (.head _)), filter_all fun y k => h y (.tail _ k)]
/-- Spans that rise and share nothing have all their seconds. -/
theorem norm_size {l : List Spn} (hp : ∀ s ∈ l, 0 ≤ s.from_ ∧ s.from_ < s.to_ ∧ s.to_ ≤ 32054400) (h : l.Pairwise fun a b => a.to_ ≤ b.from_) : sizeS (normS l) = sizeS l := by
  have hg : goodS l = l := by
    have : l.map cleanS = l := by
      rw [List.map_congr_left (g := id)]
      · simp
      · intro s hs
        have := hp s hs
        cases s
        simp only [cleanS, id, Spn.mk.injEq] at *
        omega
    rw [goodS, this]
    exact filter_all fun s hs => by have := hp s hs; simp; omega
  have hs : l.Pairwise leS := by
    clear hg
    induction l with
    | nil => exact .nil
    | cons x l ih =>
      obtain ⟨h1, h2⟩ := List.pairwise_cons.1 h
      refine List.pairwise_cons.2 ⟨fun y hy => ?_, ih (fun s k => hp s (.tail _ k)) h2⟩
      have := h1 y hy
      have := hp x (.head _)
      simp only [leS]
      omega
  rw [← merge_any (l := l) (m := l) (by rw [hg]) hs]
  cases l with
  | nil => rfl
  | cons x l => exact merge1_size (fun s k => (hp s (.tail _ k)).2.1) (hp x (.head _)).2.1 h
theorem normS_in {l : List Spn} : ∀ s ∈ normS l, 0 ≤ s.from_ ∧ s.from_ < s.to_ ∧ s.to_ ≤ 32054400 := fun s hs => by
  have hp := (normS_plain l).pos s hs
  have h1 := (normS_cov l s.from_).1 ⟨s, hs, by omega, hp⟩
  have h2 := (normS_cov l (s.to_ - 1)).1 ⟨s, hs, by omega, by omega⟩
  omega
theorem merge1_len : ∀ (c : Spn) (r : List Spn), (merge1 c r).length ≤ r.length + 1
  | _, [] => by simp [merge1]
  | c, s :: r => by
    unfold merge1
    split
    · have := merge1_len ⟨c.from_, max c.to_ s.to_⟩ r; simp; omega
    · have := merge1_len s r; simp; omega
theorem mergeS_len : ∀ (l : List Spn), (mergeS l).length ≤ l.length
  | [] => by simp [mergeS]
  | s :: r => by simpa [mergeS] using merge1_len s r
theorem goodS_len (l : List Spn) : (goodS l).length ≤ l.length := by
  have := List.length_filter_le (fun s : Spn => decide (s.from_ < s.to_)) (l.map cleanS)
  simpa [goodS] using this
theorem normS_len (l : List Spn) : (normS l).length ≤ l.length := by
  have h1 := mergeS_len (sortS (goodS l))
  have h2 := (sortS_perm (goodS l)).length_eq
  have h3 := goodS_len l
  unfold normS
  omega
end Go.Proofs.YtpdghiplnlhnfaaGreat.Ax

namespace Go.Proofs.YtpdghiplnlhnfaaGreat.Ax
set_option linter.unusedSimpArgs false
set_option linter.unusedVariables false
open Go Go.Proofs
theorem allI_one {lo hi x : Int} (h : allI lo hi [x] = true) : lo ≤ x ∧ x ≤ hi := by
  simp [allI, outI] at h
  omega
theorem setup_times {s : Setup} (h : setupOk s = true) : (1 ≤ s.unit ∧ s.unit ≤ 3600) ∧ (60 ≤ s.cap ∧ s.cap ≤ 57600) := by
  simp only [setupOk, timesOk, Bool.and_eq_true] at h
  exact ⟨allI_one h.1.2.1.1.1.1.2, allI_one h.1.2.1.1.1.2⟩
/-! Rounding. -/
def rqP (t u : Int) : Int := if t % u ≥ u - t % u then t / u + 1 else t / u
theorem round_eq {t u : Int} (h1 : 1 ≤ u) (h2 : u ≤ 3600) : roundI t u = min (rqP (clampI t 32054400) u * u) 32054400 := by
  have c0 : 0 ≤ clampI t 32054400 := by unfold clampI; omega
  have c1 : clampI t 32054400 ≤ 32054400 := by unfold clampI; omega
  have m0 := Int.emod_nonneg (clampI t 32054400) (show u ≠ 0 by omega)
  have m1 := Int.emod_lt_of_pos (clampI t 32054400) (show 0 < u by omega)
  have d0 : 0 ≤ clampI t 32054400 / u := Int.ediv_nonneg c0 (by omega)
  have d1 : clampI t 32054400 / u ≤ 32054400 := Int.le_trans (Int.ediv_le_self _ c0) c1
  have hp : partsI (clampI t 32054400) u = (clampI t 32054400 / u, clampI t 32054400 % u) := by
    unfold partsI
    rw [Int.tdiv_eq_ediv_of_nonneg c0, Int.tmod_eq_emod_of_nonneg c0, if_neg (by omega), wr_fit (by unfold Fit; omega)]
  have hh : halfI (clampI t 32054400) u = (rqP (clampI t 32054400) u, 0) := by
    unfold halfI
    rw [if_neg (by omega), hp]
    simp only
    rw [wr_fit (n := u - clampI t 32054400 % u) (by unfold Fit; omega)]
    unfold rqP
    split
    · rw [wr_fit (by unfold Fit; omega)]
    · rfl
  have q0 : 0 ≤ rqP (clampI t 32054400) u := by unfold rqP; split <;> omega
  have q1 : rqP (clampI t 32054400) u ≤ 32054401 := by unfold rqP; split <;> omega
  have q2 : rqP (clampI t 32054400) u * u ≤ 32054401 * 3600 := Int.mul_le_mul q1 h2 (by omega) (by omega)
  have q3 : 0 ≤ rqP (clampI t 32054400) u * u := Int.mul_nonneg q0 (by omega)
  unfold roundI
  rw [if_neg (by omega), hh]
  simp only
  rw [show min u 64108801 = u by omega, wr_fit (by unfold Fit; omega)]
theorem rq_mono {a b u : Int} (hu : 1 ≤ u) (h : a ≤ b) : rqP a u ≤ rqP b u := by
  have h1 : a / u ≤ b / u := Int.ediv_le_ediv (by omega) h
  have ea := Int.emod_add_mul_ediv a u
  have eb := Int.emod_add_mul_ediv b u
  have := Int.emod_nonneg b (show u ≠ 0 by omega)
  have := Int.emod_lt_of_pos a (show 0 < u by omega)
  unfold rqP
  by_cases h2 : a / u = b / u
  · rw [h2] at ea ⊢
    have h3 : a % u ≤ b % u := by omega
    split <;> split <;> omega
  · split <;> split <;> omega
theorem round_mono {a b u : Int} (h1 : 1 ≤ u) (h2 : u ≤ 3600) (h : a ≤ b) : roundI a u ≤ roundI b u := by
  rw [round_eq h1 h2, round_eq h1 h2]
  have hc : clampI a 32054400 ≤ clampI b 32054400 := by unfold clampI; omega
  have := Int.mul_le_mul_of_nonneg_right (rq_mono h1 hc) (show 0 ≤ u by omega)
  omega
theorem round_nonneg {a u : Int} (h1 : 1 ≤ u) (h2 : u ≤ 3600) : 0 ≤ roundI a u := by
  rw [round_eq h1 h2]
  have c0 : 0 ≤ clampI a 32054400 := by unfold clampI; omega
  have d0 : 0 ≤ clampI a 32054400 / u := Int.ediv_nonneg c0 (by omega)
  have q0 : 0 ≤ rqP (clampI a 32054400) u := by unfold rqP; split <;> omega
  have := Int.mul_nonneg q0 (show 0 ≤ u by omega)
  omega
theorem round_le {a u : Int} (h1 : 1 ≤ u) (h2 : u ≤ 3600) : roundI a u ≤ 32054400 := by
  rw [round_eq h1 h2]
  omega
/-! What an event may be. -/
theorem kindOk_iff {k : Int} (h : kindOk k = true) : 1 ≤ k ∧ k ≤ 7 := by
  simp [kindOk] at h
  omega
theorem evOk_fair {s : Setup} {e : Ev} (h : evOk s e = true) : fairOk e = true := by
  unfold evOk at h
  cases hf : fairOk e
  · rw [hf] at h; simp at h
  · rfl
theorem fair_fields {e : Ev} (h : fairOk e = true) : (1 ≤ e.kind ∧ e.kind ≤ 7) ∧ (0 ≤ e.id ∧ e.id ≤ 100000) ∧ 0 ≤ e.worker ∧ (0 ≤ e.at_ ∧ e.at_ ≤ 31449599) ∧ (e.kind ≠ 4 → e.code = 0) := by
  simp only [fairOk, Bool.and_eq_true, Bool.not_not] at h
  obtain ⟨h1, h2, h3, h4, h5⟩ := h
  refine ⟨kindOk_iff h1, ?_, ?_, ?_, fun hk => ?_⟩
  · simp [leastOk] at h2; exact h2
  · simp at h3; exact h3
  · simp [leastOk] at h4; exact h4
  · unfold fieldsOk at h5
    by_cases h3 : e.kind = 3
    · simp [h3] at h5; omega
    · simp [h3, hk] at h5; omega
theorem selP_iff {s : Setup} {w : Int} {e : Ev} : selP s w e = true ↔ e.worker = w ∧ e.kind ≠ 7 ∧ evOk s e = true := by
  simp [selP, and_assoc]
/-! Order. -/
theorem srt_at {l : List Ev} (h : Srt l) : l.Pairwise fun a b => a.at_ ≤ b.at_ := by
  induction l with
  | nil => exact .nil
  | cons x l ih =>
    have h' : Srt ([x] ++ l) := h
    obtain ⟨_, h1, h2⟩ := srt_app.1 h'
    refine List.pairwise_cons.2 ⟨fun y hy => ?_, ih h1⟩
    have := h2 x (.head _) y hy
    have := (ltE_not y x).1 this
    omega
/-! Parts. -/
structure RiseTo (l : List Seg) (hi : Int) : Prop where
  each : ∀ g ∈ l, 0 ≤ g.from_ ∧ g.from_ < g.to_ ∧ g.to_ ≤ hi
  gap : l.Pairwise fun a b => a.to_ ≤ b.from_
theorem RiseTo.mono {l : List Seg} {a b : Int} (h : RiseTo l a) (k : a ≤ b) : RiseTo l b := ⟨fun g hg => by have := h.each g hg; omega, h.gap⟩
theorem RiseTo.snoc {l : List Seg} {b : Int} {g : Seg} (h : RiseTo l b) (h0 : 0 ≤ b) (h1 : g.from_ = b) (h2 : g.from_ < g.to_) : RiseTo (l ++ [g]) g.to_ := by
  refine ⟨fun x hx => ?_, List.pairwise_append.2 ⟨h.gap, by simp, fun x hx y hy => ?_⟩⟩
  · rcases List.mem_append.1 hx with hx | hx
    · have := h.each x hx; omega
    · simp at hx; subst hx; omega
  · simp at hy; subst hy
    have := h.each x hx
    omega
/-- A part is of an event of the worker's. -/
def SegOf (e : Ev) (g : Seg) : Prop := g.id = e.id ∧ g.kind = kindI e.kind ∧ g.code = e.code
theorem partP_segs {t : TellS} {b c : Int} {e : Ev} : (partP t b c e).segs = if b < c then t.segs ++ [⟨b, c, kindI e.kind, e.id, e.code⟩] else t.segs := by
  unfold partP
  split <;> rfl
theorem partP_rise {t : TellS} {b c : Int} {e : Ev} (h : RiseTo t.segs b) (h0 : 0 ≤ b) (hbc : b ≤ c) : RiseTo (partP t b c e).segs c := by
  rw [partP_segs]
  split
  · exact h.snoc (g := ⟨b, c, kindI e.kind, e.id, e.code⟩) h0 rfl (by simp only; omega)
  · exact h.mono hbc
theorem partP_of {t : TellS} {b c : Int} {e : Ev} {p : Ev → Prop} (h : ∀ g ∈ t.segs, ∃ e, p e ∧ SegOf e g) (he : p e) : ∀ g ∈ (partP t b c e).segs, ∃ e, p e ∧ SegOf e g := fun g hg => by
  rw [partP_segs] at hg
  split at hg
  · rcases List.mem_append.1 hg with hg | hg
    · exact h g hg
    · simp at hg; subst hg; exact ⟨e, he, rfl, rfl, rfl⟩
  · exact h g hg
theorem parts_rise {first last : Int} {p : Ev → Prop} (hf : 0 ≤ first) : ∀ (os : List Ev) (z : Int × Ev × TellS), first ≤ z.1 → z.1 ≤ max first last → RiseTo z.2.2.segs z.1 → (∀ g ∈ z.2.2.segs, ∃ e, p e ∧ SegOf e g) → p z.2.1 →
    os.Pairwise (fun a b => a.at_ ≤ b.at_) → (∀ x ∈ os, p x ∧ z.1 ≤ toP first last x.at_) →
    first ≤ (os.foldl (stepP first last) z).1 ∧ (os.foldl (stepP first last) z).1 ≤ max first last ∧ RiseTo (os.foldl (stepP first last) z).2.2.segs (os.foldl (stepP first last) z).1 ∧ (∀ g ∈ (os.foldl (stepP first last) z).2.2.segs, ∃ e, p e ∧ SegOf e g) ∧ p (os.foldl (stepP first last) z).2.1
  | [], z, h1, h2, h3, h4, h5, _, _ => ⟨h1, h2, h3, h4, h5⟩
  | x :: os, z, h1, h2, h3, h4, h5, h6, h7 => by
    obtain ⟨k1, k2⟩ := List.pairwise_cons.1 h6
    have hx := h7 x (.head _)
    rw [List.foldl_cons]
    refine parts_rise hf os (stepP first last z x) ?_ ?_ ?_ ?_ hx.1 k2 fun y hy => ⟨(h7 y (.tail _ hy)).1, ?_⟩
    · simp only [stepP, toP]; omega
    · simp only [stepP, toP]; omega
    · exact partP_rise h3 (by omega) hx.2
    · exact partP_of h4 h5
    · have := k1 y hy
      simp only [stepP, toP]
      omega
theorem close_rise {first last : Int} {p : Ev → Prop} {t : TellS} {e : Ev} {os : List Ev} (hf : 0 ≤ first) (h3 : RiseTo t.segs first) (h4 : ∀ g ∈ t.segs, ∃ e, p e ∧ SegOf e g) (h5 : p e) (h6 : os.Pairwise fun a b => a.at_ ≤ b.at_) (h7 : ∀ x ∈ os, p x) :
    RiseTo (closeWith first last t e os).segs (max first last) ∧ ∀ g ∈ (closeWith first last t e os).segs, ∃ e, p e ∧ SegOf e g := by
  have := parts_rise (last := last) hf os (first, e, t) (Int.le_refl _) (by simp only; omega) h3 h4 h5 h6 fun x hx => ⟨h7 x hx, by simp only [toP]; omega⟩
  obtain ⟨k1, k2, k3, k4, k5⟩ := this
  have ht : toP first last last = max first last := by unfold toP; omega
  unfold closeWith partsP
  rw [ht]
  exact ⟨partP_rise k3 (by omega) k2, partP_of k4 k5⟩
/-- The teller, at a time. -/
structure InvR (s : Setup) (p : Ev → Prop) (t : TellS) (m : Int) : Prop where
  rise : RiseTo t.segs (roundI (match t.open_ with | none => m | some (f, _) => f.at_) s.unit)
  of : ∀ g ∈ t.segs, ∃ e, p e ∧ SegOf e g
  opn : ∀ f os, t.open_ = some (f, os) → p f ∧ f.at_ ≤ m ∧ os.Pairwise (fun a b => a.at_ ≤ b.at_) ∧ ∀ x ∈ os, p x ∧ x.at_ ≤ m
section
variable {s : Setup} {p : Ev → Prop} {t : TellS} {m : Int}
theorem InvR.none (h : InvR s p t m) (ho : t.open_ = none) : RiseTo t.segs (roundI m s.unit) := by
  have := h.rise; rw [ho] at this; exact this
theorem InvR.some {f : Ev} {os : List Ev} (h : InvR s p t m) (ho : t.open_ = some (f, os)) : RiseTo t.segs (roundI f.at_ s.unit) := by
  have := h.rise; rw [ho] at this; exact this
theorem closeP_inv (hs : setupOk s = true) {f : Ev} {os : List Ev} (h : InvR s p t m) (ho : t.open_ = some (f, os)) {c : Int} (hc : f.at_ ≤ c) :
    RiseTo (closeP s t f os c).segs (roundI c s.unit) ∧ ∀ g ∈ (closeP s t f os c).segs, ∃ e, p e ∧ SegOf e g := by
  obtain ⟨⟨u1, u2⟩, _⟩ := setup_times hs
  obtain ⟨k1, k2, k3, k4⟩ := h.opn f os ho
  have := close_rise (last := roundI c s.unit) (round_nonneg u1 u2) (h.some ho) h.of k1 k3 fun x hx => (k4 x hx).1
  have hm := round_mono u1 u2 hc
  rw [show max (roundI f.at_ s.unit) (roundI c s.unit) = roundI c s.unit by omega] at this
  exact this
theorem flagP_inv {e : Ev} {k : Int} (h : InvR s p t m) : InvR s p (flagP t e k) m := ⟨h.rise, h.of, h.opn⟩
theorem lateP_inv (hs : setupOk s = true) (hp : ∀ e, p e → 0 ≤ e.at_ ∧ e.at_ ≤ 31449599) (h : InvR s p t m) {a : Int} (hm : m ≤ a) : InvR s p (lateP s t a) a := by
  obtain ⟨⟨u1, u2⟩, c1, c2⟩ := setup_times hs
  unfold lateP
  cases ho : t.open_ with
  | none =>
    simp only
    refine ⟨?_, h.of, fun f os q => by rw [ho] at q; cases q⟩
    rw [ho]
    exact (h.none ho).mono (round_mono u1 u2 hm)
  | some q =>
    obtain ⟨f, os⟩ := q
    obtain ⟨k1, k2, k3, k4⟩ := h.opn f os ho
    have hf := hp f k1
    simp only
    split
    · rename_i hgt
      rw [wr_fit (by unfold Fit; omega)] at hgt ⊢
      have := closeP_inv (t := flagP t f 1) hs (flagP_inv h) ho (c := f.at_ + s.cap) (by omega)
      refine ⟨?_, this.2, fun _ _ q => by cases q⟩
      exact this.1.mono (round_mono u1 u2 (show f.at_ + s.cap ≤ a by omega))
    · refine ⟨?_, h.of, fun f' os' q => ?_⟩
      · rw [ho]; exact h.some ho
      · obtain ⟨k1, k2, k3, k4⟩ := h.opn f' os' q
        exact ⟨k1, by omega, k3, fun x hx => ⟨(k4 x hx).1, by have := (k4 x hx).2; omega⟩⟩
theorem nextP_inv (hs : setupOk s = true) (hp : ∀ e, p e → 0 ≤ e.at_ ∧ e.at_ ≤ 31449599) (h : InvR s p t m) {e : Ev} (he : e.kind ≠ 2 → p e) (hm : m ≤ e.at_) : InvR s p (nextP s t e) e.at_ := by
  have hl := lateP_inv hs hp h hm
  unfold nextP
  by_cases h1 : e.kind = 1
  · rw [if_pos h1]
    have hpe := he (by omega)
    cases ho : (lateP s t e.at_).open_ with
    | none =>
      simp only
      refine ⟨hl.none ho, hl.of, fun f os q => ?_⟩
      injection q with q; injection q with q1 q2; subst q1; subst q2
      exact ⟨hpe, Int.le_refl _, .nil, fun _ hx => by cases hx⟩
    | some q =>
      obtain ⟨f, os⟩ := q
      simp only
      have := closeP_inv (t := flagP (lateP s t e.at_) f 2) hs (flagP_inv hl) ho (c := e.at_) (hl.opn f os ho).2.1
      refine ⟨this.1, this.2, fun f os q => ?_⟩
      injection q with q; injection q with q1 q2; subst q1; subst q2
      exact ⟨hpe, Int.le_refl _, .nil, fun _ hx => by cases hx⟩
  · rw [if_neg h1]
    cases ho : (lateP s t e.at_).open_ with
    | none => exact flagP_inv hl
    | some q =>
      obtain ⟨f, os⟩ := q
      simp only
      split
      · have := closeP_inv hs hl ho (c := e.at_) (hl.opn f os ho).2.1
        exact ⟨this.1, this.2, fun _ _ q => by cases q⟩
      · rename_i h2
        obtain ⟨k1, k2, k3, k4⟩ := hl.opn f os ho
        refine ⟨hl.some ho, hl.of, fun f' os' q => ?_⟩
        injection q with q; injection q with q1 q2; subst q1; subst q2
        refine ⟨k1, k2, List.pairwise_append.2 ⟨k3, by simp, fun a ha b hb => ?_⟩, fun x hx => ?_⟩
        · simp at hb; subst hb; exact (k4 a ha).2
        · rcases List.mem_append.1 hx with hx | hx
          · exact k4 x hx
          · simp at hx; subst hx; exact ⟨he h2, Int.le_refl _⟩
theorem fold_inv (hs : setupOk s = true) (hp : ∀ e, p e → 0 ≤ e.at_ ∧ e.at_ ≤ 31449599) {w : Int} : ∀ (l : List Ev) (t : TellS) (m : Int), InvR s p t m → l.Pairwise (fun a b => a.at_ ≤ b.at_) → (∀ e ∈ l, selP s w e = true → (e.kind ≠ 2 → p e) ∧ m ≤ e.at_ ∧ e.at_ ≤ 31449599) → m ≤ 31449599 → ∃ m', m' ≤ 31449599 ∧ InvR s p (l.foldl (takeP s w) t) m'
  | [], t, m, h, _, _, hm => ⟨m, hm, h⟩
  | e :: l, t, m, h, hs2, ha, hm => by
    obtain ⟨k1, k2⟩ := List.pairwise_cons.1 hs2
    rw [List.foldl_cons]
    unfold takeP
    split
    · rename_i hsel
      have he := ha e (.head _) hsel
      exact fold_inv hs hp l _ e.at_ (nextP_inv hs hp h he.1 he.2.1) k2 (fun x hx hsx => ⟨(ha x (.tail _ hx) hsx).1, k1 x hx, (ha x (.tail _ hx) hsx).2.2⟩) he.2.2
    · exact fold_inv hs hp l t m h k2 (fun x hx => ha x (.tail _ hx)) hm
end
/-- All parts rise, share nothing, and each is of an event of the worker's. -/
theorem stream_rise {s : Setup} {l : List Ev} {w : Int} (hs : setupOk s = true) :
    RiseTo (streamP s l w).1 32054400 ∧ ∀ g ∈ (streamP s l w).1, ∃ e, (e ∈ l ∧ selP s w e = true ∧ e.kind ≠ 2) ∧ SegOf e g := by
  obtain ⟨⟨u1, u2⟩, _⟩ := setup_times hs
  have hp : ∀ e, (e ∈ l ∧ selP s w e = true ∧ e.kind ≠ 2) → 0 ≤ e.at_ ∧ e.at_ ≤ 31449599 := fun e he => (fair_fields (evOk_fair (selP_iff.1 he.2.1).2.2)).2.2.2.1
  obtain ⟨m, hm, hi⟩ := fold_inv (s := s) (w := w) (p := fun e => e ∈ l ∧ selP s w e = true ∧ e.kind ≠ 2) hs hp (stabE l) ⟨none, [], []⟩ 0 ⟨⟨fun _ h => (by cases h), .nil⟩, fun _ h => (by cases h), fun _ _ h => (by cases h)⟩ (srt_at (stabE_srt l)) (fun e he hsel => by
    have := (fair_fields (evOk_fair (selP_iff.1 hsel).2.2)).2.2.2.1
    exact ⟨fun hk => ⟨mem_stabE.1 he, hsel, hk⟩, by omega, by omega⟩) (by omega)
  have hl := lateP_inv hs hp hi (a := 32054400) (by omega)
  unfold streamP
  rw [if_pos hs]
  refine ⟨hl.rise.mono ?_, hl.of⟩
  exact round_le u1 u2
end Go.Proofs.YtpdghiplnlhnfaaGreat.Ax

namespace Go.Proofs.YtpdghiplnlhnfaaGreat.Ax
set_option linter.unusedSimpArgs false
set_option linter.unusedVariables false
open Go Go.Proofs
def spS (g : Seg) : Spn := ⟨g.from_, g.to_⟩
def covT (t : TellS) (x : Int) : Prop := Cov (t.segs.map spS) x
theorem partP_cov {t : TellS} {b c : Int} {e : Ev} {x : Int} : covT (partP t b c e) x ↔ covT t x ∨ (b ≤ x ∧ x < c) := by
  unfold covT
  rw [partP_segs]
  split
  · rw [List.map_append, cov_app]
    simp [Cov, spS]
  · constructor
    · exact .inl
    · rintro (h | h)
      · exact h
      · omega
theorem parts_cov {first last : Int} {x : Int} : ∀ (os : List Ev) (z : Int × Ev × TellS), os.Pairwise (fun a b => a.at_ ≤ b.at_) → (∀ y ∈ os, z.1 ≤ toP first last y.at_) →
    z.1 ≤ (os.foldl (stepP first last) z).1 ∧ (covT (os.foldl (stepP first last) z).2.2 x ↔ covT z.2.2 x ∨ (z.1 ≤ x ∧ x < (os.foldl (stepP first last) z).1))
  | [], z, _, _ => ⟨Int.le_refl _, ⟨.inl, fun h => h.elim id fun h => by simp only [List.foldl_nil] at h; omega⟩⟩
  | y :: os, z, h1, h2 => by
    obtain ⟨k1, k2⟩ := List.pairwise_cons.1 h1
    have hy := h2 y (.head _)
    have ih := parts_cov (x := x) (first := first) (last := last) os (stepP first last z y) k2 fun q hq => by
      have := k1 q hq
      simp only [stepP, toP]
      omega
    rw [List.foldl_cons]
    have e1 : (stepP first last z y).1 = toP first last y.at_ := rfl
    have e2 : (stepP first last z y).2.2 = partP z.2.2 z.1 (toP first last y.at_) z.2.1 := rfl
    refine ⟨by rw [e1] at ih; omega, ih.2.trans ?_⟩
    rw [e2, partP_cov, e1]
    have := ih.1
    rw [e1] at this
    constructor
    · rintro ((h | h) | h)
      · exact .inl h
      · exact .inr ⟨h.1, by omega⟩
      · exact .inr ⟨by omega, h.2⟩
    · rintro (h | h)
      · exact .inl (.inl h)
      · by_cases hx : x < toP first last y.at_
        · exact .inl (.inr ⟨h.1, hx⟩)
        · exact .inr ⟨by omega, h.2⟩
theorem parts_hi {first last : Int} : ∀ (os : List Ev) {z : Int × Ev × TellS}, z.1 ≤ max first last → (os.foldl (stepP first last) z).1 ≤ max first last
  | [], z, h => h
  | y :: os, z, h => by
    rw [List.foldl_cons]
    exact parts_hi os (z := stepP first last z y) (by simp only [stepP, toP]; omega)
theorem parts_le {first last : Int} : ∀ (os : List Ev) {z : Int × Ev × TellS}, z.1 ≤ last → (os.foldl (stepP first last) z).1 ≤ max first last
  | os, z, h => parts_hi os (by omega)
theorem close_cov {first last : Int} {t : TellS} {e : Ev} {os : List Ev} {x : Int} (h : first ≤ last) (hs : os.Pairwise fun a b => a.at_ ≤ b.at_) : covT (closeWith first last t e os) x ↔ covT t x ∨ (first ≤ x ∧ x < last) := by
  have := parts_cov (x := x) (first := first) (last := last) os (first, e, t) hs fun y _ => by simp only [toP]; omega
  have hr := parts_le os (z := (first, e, t)) (first := first) (last := last) h
  unfold closeWith partsP
  rw [partP_cov, this.2, show toP first last last = last by unfold toP; omega]
  have := this.1
  simp only at this ⊢
  constructor
  · rintro ((h | h) | h)
    · exact .inl h
    · exact .inr ⟨h.1, by omega⟩
    · exact .inr ⟨by omega, h.2⟩
  · rintro (h | h)
    · exact .inl (.inl h)
    · by_cases hx : x < (os.foldl (stepP first last) (first, e, t)).1
      · exact .inl (.inr ⟨h.1, hx⟩)
      · exact .inr ⟨by omega, h.2⟩
def opF (t : TellS) : Option Ev := t.open_.map (·.1)
structure EqT (a b : TellS) : Prop where
  opn : opF a = opF b
  cov : ∀ x, covT a x ↔ covT b x
def WfT (t : TellS) : Prop := ∀ f os, t.open_ = some (f, os) → os.Pairwise (fun a b => a.at_ ≤ b.at_) ∧ 0 ≤ f.at_ ∧ f.at_ ≤ 31449599
theorem opF_some {t : TellS} {f : Ev} (h : opF t = some f) : ∃ os, t.open_ = some (f, os) := by
  unfold opF at h
  cases ho : t.open_ with
  | none => rw [ho] at h; cases h
  | some q => obtain ⟨g, os⟩ := q; rw [ho] at h; injection h with h; simp only at h; subst h; exact ⟨os, rfl⟩
theorem opF_none {t : TellS} (h : opF t = none) : t.open_ = none := by
  unfold opF at h
  cases ho : t.open_ with
  | none => rfl
  | some q => rw [ho] at h; cases h
section
variable {s : Setup} {a b : TellS}
theorem closeP_cov (hs : setupOk s = true) {t : TellS} {f : Ev} {os : List Ev} (h : os.Pairwise fun a b => a.at_ ≤ b.at_) {c x : Int} (hc : f.at_ ≤ c) : covT (closeP s t f os c) x ↔ covT t x ∨ (roundI f.at_ s.unit ≤ x ∧ x < roundI c s.unit) := by
  obtain ⟨⟨u1, u2⟩, _⟩ := setup_times hs
  exact close_cov (round_mono u1 u2 hc) h
theorem EqT.close (hs : setupOk s = true) (h : EqT a b) {f : Ev} {o1 o2 : List Ev} (h1 : o1.Pairwise fun a b => a.at_ ≤ b.at_) (h2 : o2.Pairwise fun a b => a.at_ ≤ b.at_) {c : Int} (hc : f.at_ ≤ c) : EqT (closeP s a f o1 c) (closeP s b f o2 c) :=
  ⟨rfl, fun x => by rw [closeP_cov hs h1 hc, closeP_cov hs h2 hc, h.cov]⟩
theorem EqT.flag (h : EqT a b) {e f : Ev} {i j : Int} : EqT (flagP a e i) (flagP b f j) := ⟨h.opn, h.cov⟩
theorem EqT.flagl (h : EqT a b) {e : Ev} {i : Int} : EqT (flagP a e i) b := ⟨h.opn, h.cov⟩
theorem EqT.late (hs : setupOk s = true) (h : EqT a b) (wa : WfT a) (wb : WfT b) (m : Int) : EqT (lateP s a m) (lateP s b m) := by
  obtain ⟨_, c1, c2⟩ := setup_times hs
  cases ho : opF a with
  | none =>
    have h1 := opF_none ho
    have h2 := opF_none (h.opn ▸ ho)
    unfold lateP
    rw [h1, h2]
    exact h
  | some f =>
    obtain ⟨o1, h1⟩ := opF_some ho
    obtain ⟨o2, h2⟩ := opF_some (h.opn ▸ ho)
    obtain ⟨k1, k2, k3⟩ := wa _ _ h1
    have q1 := (wb _ _ h2).1
    unfold lateP
    rw [h1, h2]
    simp only
    have hw : wr (f.at_ + s.cap) = f.at_ + s.cap := wr_fit (by unfold Fit; omega)
    rw [hw]
    split
    · exact EqT.close hs h.flag k1 q1 (by omega)
    · exact h
theorem late_late {t : TellS} {m m' : Int} (h : m ≤ m') : lateP s (lateP s t m) m' = lateP s t m' := by
  cases ho : t.open_ with
  | none =>
    have : ∀ k, lateP s t k = t := fun k => by unfold lateP; rw [ho]
    rw [this, this]
  | some q =>
    obtain ⟨f, os⟩ := q
    by_cases hm : m > wr (f.at_ + s.cap)
    · have : ∀ k, k > wr (f.at_ + s.cap) → lateP s t k = closeP s (flagP t f 1) f os (wr (f.at_ + s.cap)) := fun k hk => by unfold lateP; rw [ho]; simp only; rw [if_pos hk]
      rw [this m hm, this m' (by omega)]
      rfl
    · have : lateP s t m = t := by unfold lateP; rw [ho]; simp only; rw [if_neg hm]
      rw [this]
/-- What is open when it was looked at is not late. -/
theorem late_open {t : TellS} {m : Int} {f : Ev} {os : List Ev} (h : (lateP s t m).open_ = some (f, os)) : lateP s t m = t ∧ t.open_ = some (f, os) ∧ m ≤ wr (f.at_ + s.cap) := by
  cases ho : t.open_ with
  | none =>
    have : lateP s t m = t := by unfold lateP; rw [ho]
    rw [this, ho] at h; cases h
  | some q =>
    obtain ⟨g, os2⟩ := q
    by_cases hm : m > wr (g.at_ + s.cap)
    · have : lateP s t m = closeP s (flagP t g 1) g os2 (wr (g.at_ + s.cap)) := by unfold lateP; rw [ho]; simp only; rw [if_pos hm]
      rw [this] at h; cases h
    · have : lateP s t m = t := by unfold lateP; rw [ho]; simp only; rw [if_neg hm]
      rw [this, ho] at h
      injection h with h; injection h with h1 h2; subst h1; subst h2
      exact ⟨this, rfl, by omega⟩
theorem InvR.wf {p : Ev → Prop} {t : TellS} {m : Int} (hp : ∀ e, p e → 0 ≤ e.at_ ∧ e.at_ ≤ 31449599) (h : InvR s p t m) : WfT t := fun f os k => ⟨(h.opn f os k).2.2.1, hp f (h.opn f os k).1⟩
/-- The teller of all events, and that of the punches alone, at a time. -/
structure Sim (s : Setup) (p : Ev → Prop) (a b : TellS) (m : Int) : Prop where
  ia : InvR s p a m
  ib : InvR s p b m
  eq : EqT (lateP s a m) (lateP s b m)
theorem Sim.on {p : Ev → Prop} {m m' : Int} (hs : setupOk s = true) (hp : ∀ e, p e → 0 ≤ e.at_ ∧ e.at_ ≤ 31449599) (h : Sim s p a b m) (hm : m ≤ m') : EqT (lateP s a m') (lateP s b m') := by
  have := EqT.late hs h.eq ((lateP_inv hs hp h.ia (Int.le_refl m)).wf hp) ((lateP_inv hs hp h.ib (Int.le_refl m)).wf hp) m'
  rw [late_late hm, late_late hm] at this
  exact this
theorem InvR.on {p : Ev → Prop} {t : TellS} {m m' : Int} (hs : setupOk s = true) (h : InvR s p t m) (hm : m ≤ m') : InvR s p t m' := by
  obtain ⟨⟨u1, u2⟩, _⟩ := setup_times hs
  refine ⟨?_, h.of, fun f os q => ?_⟩
  · cases ho : t.open_ with
    | none => exact (h.none ho).mono (round_mono u1 u2 hm)
    | some q => obtain ⟨f, os⟩ := q; exact h.some ho
  · obtain ⟨k1, k2, k3, k4⟩ := h.opn f os q
    exact ⟨k1, by omega, k3, fun x hx => ⟨(k4 x hx).1, by have := (k4 x hx).2; omega⟩⟩
/-- An event that is no punch. -/
theorem Sim.other {p : Ev → Prop} {m : Int} (hs : setupOk s = true) (hp : ∀ e, p e → 0 ≤ e.at_ ∧ e.at_ ≤ 31449599) (h : Sim s p a b m) {e : Ev} (h1 : e.kind ≠ 1) (h2 : e.kind ≠ 2) (he : p e) (hm : m ≤ e.at_) : Sim s p (nextP s a e) b e.at_ := by
  refine ⟨nextP_inv hs hp h.ia (fun _ => he) hm, h.ib.on hs hm, ?_⟩
  have hq := h.on hs hp hm
  have hw : ∀ f os, (lateP s a e.at_).open_ = some (f, os) → lateP s (nextP s a e) e.at_ = nextP s a e := fun f os ho => by
    obtain ⟨k1, k2, k3⟩ := late_open ho
    have : nextP s a e = ⟨some (f, os ++ [e]), (lateP s a e.at_).segs, (lateP s a e.at_).flags⟩ := by unfold nextP; rw [if_neg h1, ho]; simp only; rw [if_neg h2]
    rw [this]
    unfold lateP
    simp only
    rw [if_neg (by omega)]
  cases ho : (lateP s a e.at_).open_ with
  | none =>
    have : nextP s a e = flagP (lateP s a e.at_) e 3 := by unfold nextP; rw [if_neg h1, ho]
    rw [this]
    have h3 : lateP s (flagP (lateP s a e.at_) e 3) e.at_ = flagP (lateP s a e.at_) e 3 := by
      have : (flagP (lateP s a e.at_) e 3).open_ = none := ho
      rw [lateP.eq_1, this]
    rw [h3]
    exact hq.flagl
  | some q =>
    obtain ⟨f, os⟩ := q
    rw [hw f os ho]
    have : nextP s a e = ⟨some (f, os ++ [e]), (lateP s a e.at_).segs, (lateP s a e.at_).flags⟩ := by unfold nextP; rw [if_neg h1, ho]; simp only; rw [if_neg h2]
    rw [this]
    exact ⟨by rw [← hq.opn]; unfold opF; rw [ho]; rfl, hq.cov⟩
theorem EqT.next (hs : setupOk s = true) {e : Ev} (hq : EqT (lateP s a e.at_) (lateP s b e.at_)) (wa : WfT (lateP s a e.at_)) (wb : WfT (lateP s b e.at_)) (hf : ∀ f os, (lateP s a e.at_).open_ = some (f, os) → f.at_ ≤ e.at_) (hk : e.kind = 1 ∨ e.kind = 2) : EqT (nextP s a e) (nextP s b e) := by
  cases ho : opF (lateP s a e.at_) with
  | none =>
    have h1 := opF_none ho
    have h2 := opF_none (hq.opn ▸ ho)
    unfold nextP
    rw [h1, h2]
    simp only
    split
    · exact ⟨rfl, hq.cov⟩
    · exact hq.flag
  | some f =>
    obtain ⟨o1, h1⟩ := opF_some ho
    obtain ⟨o2, h2⟩ := opF_some (hq.opn ▸ ho)
    have hfe := hf f o1 h1
    unfold nextP
    rw [h1, h2]
    simp only
    split
    · exact ⟨rfl, (EqT.close hs hq.flag (wa _ _ h1).1 (wb _ _ h2).1 hfe).cov⟩
    · rename_i hk1
      rw [if_pos (by omega)]
      rw [if_pos (by omega)]
      exact EqT.close hs hq (wa _ _ h1).1 (wb _ _ h2).1 hfe
theorem Sim.punch {p : Ev → Prop} {m : Int} (hs : setupOk s = true) (hp : ∀ e, p e → 0 ≤ e.at_ ∧ e.at_ ≤ 31449599) (h : Sim s p a b m) {e : Ev} (hk : e.kind = 1 ∨ e.kind = 2) (he : e.kind ≠ 2 → p e) (hm : m ≤ e.at_) : Sim s p (nextP s a e) (nextP s b e) e.at_ := by
  have hq := h.on hs hp hm
  have la := lateP_inv hs hp h.ia hm
  have lb := lateP_inv hs hp h.ib hm
  have na := nextP_inv hs hp h.ia he hm
  have nb := nextP_inv hs hp h.ib he hm
  exact ⟨na, nb, EqT.late hs (EqT.next hs hq (la.wf hp) (lb.wf hp) (fun f os ho => (la.opn f os ho).2.1) hk) (na.wf hp) (nb.wf hp) e.at_⟩
def punchP (e : Ev) : Bool := e.kind == 1 || e.kind == 2
theorem punchP_iff {e : Ev} : punchP e = true ↔ e.kind = 1 ∨ e.kind = 2 := by simp [punchP]
theorem fold_sim {p : Ev → Prop} (hs : setupOk s = true) (hp : ∀ e, p e → 0 ≤ e.at_ ∧ e.at_ ≤ 31449599) {w : Int} : ∀ (l : List Ev) (a b : TellS) (m : Int), Sim s p a b m → l.Pairwise (fun a b => a.at_ ≤ b.at_) → (∀ e ∈ l, selP s w e = true → (e.kind ≠ 2 → p e) ∧ m ≤ e.at_ ∧ e.at_ ≤ 31449599) → m ≤ 31449599 →
    ∃ m', m' ≤ 31449599 ∧ Sim s p (l.foldl (takeP s w) a) ((l.filter punchP).foldl (takeP s w) b) m'
  | [], a, b, m, h, _, _, hm => ⟨m, hm, h⟩
  | e :: l, a, b, m, h, hs2, ha, hm => by
    obtain ⟨k1, k2⟩ := List.pairwise_cons.1 hs2
    rw [List.foldl_cons, List.filter_cons]
    cases hsel : selP s w e
    · have e1 : ∀ t, takeP s w t e = t := fun t => by simp [takeP, hsel]
      have ih := fold_sim hs hp l a b m h k2 (fun x hx => ha x (.tail _ hx)) hm
      rw [e1]
      split
      · rw [List.foldl_cons, e1]; exact ih
      · exact ih
    · have e1 : ∀ t, takeP s w t e = nextP s t e := fun t => by simp [takeP, hsel]
      obtain ⟨he1, he2, he3⟩ := ha e (.head _) hsel
      have hrest : ∀ x ∈ l, selP s w x = true → (x.kind ≠ 2 → p x) ∧ e.at_ ≤ x.at_ ∧ x.at_ ≤ 31449599 := fun x hx hsx => ⟨(ha x (.tail _ hx) hsx).1, k1 x hx, (ha x (.tail _ hx) hsx).2.2⟩
      rw [e1]
      split
      · rename_i hk
        rw [List.foldl_cons, e1]
        exact fold_sim hs hp l _ _ e.at_ (h.punch hs hp (punchP_iff.1 hk) he1 he2) k2 hrest he3
      · rename_i hk
        have hk' : ¬ (e.kind = 1 ∨ e.kind = 2) := fun q => hk (punchP_iff.2 q)
        exact fold_sim hs hp l _ _ e.at_ (h.other hs hp (by omega) (by omega) (he1 (by omega)) he2) k2 hrest he3
end
/-! The order of some of them. -/
theorem insE_filter {p : Ev → Bool} (x : Ev) : ∀ {l : List Ev}, Srt l → (insE x l).filter p = if p x then insE x (l.filter p) else l.filter p
  | [], _ => by
    simp only [insE, List.filter_cons, List.filter_nil]
  | y :: l, h => by
    have h' : Srt ([y] ++ l) := h
    have hl := (srt_app.1 h').2.1
    rw [insE_cons]
    cases hlt : ltE y x
    · simp only [Bool.false_eq_true, if_false]
      rw [List.filter_cons]
      cases hp : p x
      · simp
      · simp only [if_true]
        have hall := srt_head h hlt
        have : ∀ q : List Ev, (∀ z ∈ q, ltE z x = false) → insE x q = x :: q := fun q hq => by
          cases q with
          | nil => rfl
          | cons z q => rw [insE_cons, hq z (.head _)]; rfl
        rw [this _ fun z hz => hall z (List.mem_filter.1 hz).1]
    · simp only [if_true]
      rw [List.filter_cons, insE_filter x hl]
      rw [List.filter_cons]
      cases hp : p x <;> cases hy : p y <;> simp [insE_cons, hlt]
theorem stabE_filter (p : Ev → Bool) : ∀ (l : List Ev), stabE (l.filter p) = (stabE l).filter p
  | [] => rfl
  | x :: l => by
    rw [List.filter_cons, show stabE (x :: l) = insE x (stabE l) from rfl, insE_filter x (stabE_srt l), ← stabE_filter p l]
    split
    · rfl
    · rfl
theorem clock_same {s : Setup} {l : List Ev} {w : Int} : normS ((streamP s l w).1.map spS) = normS ((streamP s (l.filter punchP) w).1.map spS) := by
  cases hs : setupOk s
  · simp [streamP, hs]
  · have hp : ∀ e, (e ∈ l ∧ selP s w e = true ∧ e.kind ≠ 2) → 0 ≤ e.at_ ∧ e.at_ ≤ 31449599 := fun e he => (fair_fields (evOk_fair (selP_iff.1 he.2.1).2.2)).2.2.2.1
    have i0 : InvR s (fun e => e ∈ l ∧ selP s w e = true ∧ e.kind ≠ 2) ⟨none, [], []⟩ 0 := ⟨⟨fun _ h => (by cases h), .nil⟩, fun _ h => (by cases h), fun _ _ h => (by cases h)⟩
    obtain ⟨m, hm, hi⟩ := fold_sim (s := s) (w := w) hs hp (stabE l) ⟨none, [], []⟩ ⟨none, [], []⟩ 0 ⟨i0, i0, ⟨rfl, fun _ => Iff.rfl⟩⟩ (srt_at (stabE_srt l)) (fun e he hsel => by
      have := (fair_fields (evOk_fair (selP_iff.1 hsel).2.2)).2.2.2.1
      exact ⟨fun hk => ⟨mem_stabE.1 he, hsel, hk⟩, by omega, by omega⟩) (by omega)
    have := hi.on hs hp (m' := 32054400) (by omega)
    refine normS_same fun t _ _ => ?_
    unfold streamP
    rw [if_pos hs, if_pos hs]
    unfold goP
    rw [stabE_filter]
    exact this.cov t
/-! With punches alone each session is one part. -/
theorem round_near {t u : Int} (h1 : 1 ≤ u) (h2 : u ≤ 3600) (h3 : 0 ≤ t) (h4 : t ≤ 32054400) : 2 * roundI t u ≤ 2 * t + u ∧ (2 * t - u ≤ 2 * roundI t u) := by
  rw [round_eq h1 h2, show clampI t 32054400 = t by unfold clampI; omega]
  have e := Int.emod_add_mul_ediv t u
  have m0 := Int.emod_nonneg t (show u ≠ 0 by omega)
  have m1 := Int.emod_lt_of_pos t (show 0 < u by omega)
  rw [Int.mul_comm] at e
  unfold rqP
  split
  · rw [Int.add_mul]; omega
  · omega
structure InvB (s : Setup) (t : TellS) : Prop where
  seg : ∀ g ∈ t.segs, g.kind = 0 ∧ g.to_ - g.from_ ≤ s.cap + s.unit
  opn : ∀ f os, t.open_ = some (f, os) → os = [] ∧ f.kind = 1 ∧ 0 ≤ f.at_ ∧ f.at_ ≤ 31449599
section
variable {s : Setup} {t : TellS}
theorem closeP_b (hs : setupOk s = true) (h : ∀ g ∈ t.segs, g.kind = 0 ∧ g.to_ - g.from_ ≤ s.cap + s.unit) {f : Ev} (hf : f.kind = 1) (h0 : 0 ≤ f.at_ ∧ f.at_ ≤ 31449599) {c : Int} (hc : f.at_ ≤ c) (hc2 : c ≤ f.at_ + s.cap) : InvB s (closeP s t f [] c) := by
  obtain ⟨⟨u1, u2⟩, c1, c2⟩ := setup_times hs
  refine ⟨fun g hg => ?_, fun _ _ q => by cases q⟩
  have hm := round_mono u1 u2 hc
  have n1 := round_near u1 u2 h0.1 (by omega)
  have n2 := round_near (t := c) u1 u2 (by omega) (by omega)
  have hg : g ∈ (partP t (roundI f.at_ s.unit) (toP (roundI f.at_ s.unit) (roundI c s.unit) (roundI c s.unit)) f).segs := hg
  rw [partP_segs, show toP (roundI f.at_ s.unit) (roundI c s.unit) (roundI c s.unit) = roundI c s.unit by unfold toP; omega] at hg
  split at hg
  · rcases List.mem_append.1 hg with hg | hg
    · exact h g hg
    · simp at hg; subst hg
      refine ⟨by simp [kindI, hf], ?_⟩
      simp only
      omega
  · exact h g hg
theorem lateP_b (hs : setupOk s = true) (h : InvB s t) (m : Int) : InvB s (lateP s t m) := by
  obtain ⟨⟨u1, u2⟩, c1, c2⟩ := setup_times hs
  cases ho : t.open_ with
  | none =>
    have : lateP s t m = t := by unfold lateP; rw [ho]
    rw [this]; exact h
  | some q =>
    obtain ⟨f, os⟩ := q
    obtain ⟨k1, k2, k3⟩ := h.opn f os ho
    subst k1
    unfold lateP
    rw [ho]
    simp only
    rw [wr_fit (by unfold Fit; omega)]
    split
    · exact closeP_b (t := flagP t f 1) hs h.seg k2 k3 (by omega) (by omega)
    · exact h
theorem nextP_b (hs : setupOk s = true) (h : InvB s t) {e : Ev} (he : evOk s e = true) (hk : e.kind = 1 ∨ e.kind = 2) (hm : ∀ f os, t.open_ = some (f, os) → f.at_ ≤ e.at_) : InvB s (nextP s t e) := by
  obtain ⟨⟨u1, u2⟩, c1, c2⟩ := setup_times hs
  have hl := lateP_b hs h e.at_
  have hat := (fair_fields (evOk_fair he)).2.2.2.1
  unfold nextP
  cases ho : (lateP s t e.at_).open_ with
  | none =>
    simp only
    split
    · rename_i h1
      exact ⟨hl.seg, fun f os q => by injection q with q; injection q with q1 q2; subst q1; subst q2; exact ⟨rfl, h1, hat⟩⟩
    · exact ⟨hl.seg, hl.opn⟩
  | some q =>
    obtain ⟨f, os⟩ := q
    obtain ⟨k1, k2, k3⟩ := hl.opn f os ho
    subst k1
    obtain ⟨q1, q2, q3⟩ := late_open ho
    have hfe := hm f [] q2
    rw [wr_fit (by unfold Fit; omega)] at q3
    simp only
    split
    · rename_i h1
      have := closeP_b (t := flagP (lateP s t e.at_) f 2) hs hl.seg k2 k3 hfe q3
      exact ⟨this.seg, fun f os q => by injection q with q; injection q with q1 q2; subst q1; subst q2; exact ⟨rfl, h1, hat⟩⟩
    · rw [if_pos (by omega)]
      exact closeP_b hs hl.seg k2 k3 hfe q3
theorem fold_b (hs : setupOk s = true) {w : Int} : ∀ (l : List Ev) (t : TellS), InvB s t → (∀ f os, t.open_ = some (f, os) → ∀ e ∈ l, f.at_ ≤ e.at_) → l.Pairwise (fun a b => a.at_ ≤ b.at_) → (∀ e ∈ l, e.kind = 1 ∨ e.kind = 2) → InvB s (l.foldl (takeP s w) t)
  | [], t, h, _, _, _ => h
  | e :: l, t, h, hf, hs2, hk => by
    obtain ⟨k1, k2⟩ := List.pairwise_cons.1 hs2
    rw [List.foldl_cons]
    cases hsel : selP s w e
    · have e1 : takeP s w t e = t := by simp [takeP, hsel]
      rw [e1]
      exact fold_b hs l t h (fun f os q x hx => hf f os q x (.tail _ hx)) k2 fun x hx => hk x (.tail _ hx)
    · have e1 : takeP s w t e = nextP s t e := by simp [takeP, hsel]
      rw [e1]
      refine fold_b hs l _ (nextP_b hs h (selP_iff.1 hsel).2.2 (hk e (.head _)) fun f os q => hf f os q e (.head _)) (fun f os q x hx => ?_) k2 fun x hx => hk x (.tail _ hx)
      have hx' := k1 x hx
      unfold nextP at q
      have hke := hk e (.head _)
      cases ho : (lateP s t e.at_).open_ with
      | none =>
        rw [ho] at q
        simp only at q
        split at q
        · injection q with q; injection q with q1 q2; subst q1; exact hx'
        · have : (lateP s t e.at_).open_ = some (f, os) := q
          rw [ho] at this; cases this
      | some z =>
        obtain ⟨g, os2⟩ := z
        rw [ho] at q
        simp only at q
        split at q
        · injection q with q; injection q with q1 q2; subst q1; exact hx'
        · rw [if_pos (by omega)] at q
          cases q
end
theorem stream_b {s : Setup} {l : List Ev} {w : Int} : ∀ g ∈ (streamP s (l.filter punchP) w).1, g.kind = 0 ∧ g.to_ - g.from_ ≤ s.cap + s.unit := by
  cases hs : setupOk s
  · simp [streamP, hs]
  · unfold streamP
    rw [if_pos hs]
    have h0 : InvB s ⟨none, [], []⟩ := ⟨fun _ h => (by cases h), fun _ _ h => (by cases h)⟩
    have := fold_b hs (w := w) (stabE (l.filter punchP)) _ h0 (fun _ _ h => (by cases h)) (srt_at (stabE_srt _)) fun e he => punchP_iff.1 (List.mem_filter.1 (mem_stabE.1 he)).2
    exact (lateP_b hs this _).seg
end Go.Proofs.YtpdghiplnlhnfaaGreat.Ax

namespace Go.Proofs.YtpdghiplnlhnfaaGreat.Ax
set_option linter.unusedSimpArgs false
set_option linter.unusedVariables false
open Go Go.Proofs
/-! Order. -/
theorem ltE_total {x y : Ev} (h : x.id ≠ y.id) : ltE x y = !ltE y x := by
  cases h1 : ltE x y <;> cases h2 : ltE y x <;> try rfl
  · have := (ltE_not x y).1 h1
    have := (ltE_not y x).1 h2
    omega
  · have := (ltE_iff x y).1 h1
    have := (ltE_iff y x).1 h2
    omega
theorem insE_comm {x y : Ev} (h : x.id ≠ y.id) : ∀ (l : List Ev), insE x (insE y l) = insE y (insE x l)
  | [] => by
    have := ltE_total h
    show insE x [y] = insE y [x]
    rw [insE_cons, insE_cons, this]
    cases ltE y x <;> rfl
  | z :: l => by
    have ht := ltE_total h
    rw [insE_cons, insE_cons]
    cases h1 : ltE z x <;> cases h2 : ltE z y <;> simp only [Bool.false_eq_true, if_false, if_true] <;> simp only [insE_cons, h1, h2, Bool.false_eq_true, if_false, if_true, ht]
    · cases ltE y x <;> simp
    · have e : ltE y x = false := by
        refine (ltE_not y x).2 fun q => ?_
        have := (ltE_not z x).1 h1
        have := (ltE_iff z y).1 h2
        omega
      simp [e]
    · have e : ltE y x = true := by
        refine (ltE_iff y x).2 ?_
        have := (ltE_iff z x).1 h1
        have := (ltE_not z y).1 h2
        omega
      simp [e]
    · rw [insE_comm h l]
theorem stabE_perm {a b : List Ev} (h : a.Perm b) : (a.map (·.id)).Nodup → stabE a = stabE b := by
  induction h with
  | nil => intro _; rfl
  | cons x _ ih =>
    intro hn
    show insE x _ = insE x _
    rw [ih (List.nodup_cons.1 hn).2]
  | swap x y l =>
    intro hn
    show insE y (insE x _) = insE x (insE y _)
    refine insE_comm ?_ _
    simp only [List.map_cons, List.nodup_cons, List.mem_cons, not_or] at hn
    exact hn.1.1
  | trans h1 _ ih1 ih2 =>
    intro hn
    rw [ih1 hn, ih2 ((h1.map (·.id)).nodup_iff.1 hn)]
theorem fold_sel {s : Setup} {w : Int} : ∀ (l : List Ev) (t : TellS), l.foldl (takeP s w) t = (l.filter (selP s w)).foldl (nextP s) t
  | [], t => rfl
  | e :: l, t => by
    rw [List.foldl_cons, List.filter_cons]
    cases h : selP s w e
    · have e1 : takeP s w t e = t := by simp [takeP, h]
      rw [e1, fold_sel l]
      rfl
    · have e1 : takeP s w t e = nextP s t e := by simp [takeP, h]
      rw [e1, fold_sel l]
      rfl
theorem go_sel {s : Setup} {w : Int} {l : List Ev} : goP s w (stabE l) = (stabE (l.filter (selP s w))).foldl (nextP s) ⟨none, [], []⟩ := by
  rw [goP, fold_sel, ← stabE_filter]
theorem stream_alone {s : Setup} {l m : List Ev} {w : Int} (hm : m.Perm (l.filter fun e => e.worker == w && e.kind != 7)) (hn : (l.map (·.id)).Nodup) : streamP s m w = streamP s l w := by
  have hp : (m.filter (selP s w)).Perm (l.filter (selP s w)) := by
    refine (hm.filter _).trans ?_
    rw [List.filter_filter]
    have : l.filter (fun a => selP s w a && (a.worker == w && a.kind != 7)) = l.filter (selP s w) := by
      refine List.filter_congr fun e _ => ?_
      unfold selP
      cases e.worker == w <;> cases e.kind != 7 <;> cases evOk s e <;> rfl
    rw [this]
  have hn2 : ((m.filter (selP s w)).map (·.id)).Nodup := by
    refine (hp.map _).nodup_iff.2 ?_
    exact hn.sublist (List.filter_sublist.map _)
  unfold streamP
  rw [go_sel, go_sel, stabE_perm hp hn2]
/-! With a unit of 1. -/
def oneS (s : Setup) : Setup := { s with unit := 1 }
theorem evOk_one (s : Setup) (e : Ev) : evOk (oneS s) e = evOk s e := rfl
theorem selP_one (s : Setup) (w : Int) (e : Ev) : selP (oneS s) w e = selP s w e := rfl
theorem setup_one {s : Setup} (h : setupOk s = true) : setupOk (oneS s) = true := by
  simp only [setupOk, timesOk, Bool.and_eq_true] at h ⊢
  refine ⟨⟨⟨h.1.1.1, h.1.1.2⟩, ⟨⟨⟨⟨h.1.2.1.1.1.1.1, ?_⟩, h.1.2.1.1.1.2⟩, h.1.2.1.1.2⟩, h.1.2.1.2⟩, h.1.2.2⟩, h.2⟩
  simp [oneS, allI, outI]
theorem round_one {t : Int} (h0 : 0 ≤ t) (h1 : t ≤ 32054400) : roundI t 1 = t := by
  rw [round_eq (by omega) (by omega), show clampI t 32054400 = t by unfold clampI; omega]
  have : rqP t 1 = t := by
    unfold rqP
    rw [Int.emod_one, Int.ediv_one]
    simp
  rw [this]
  omega
def rndG (s : Setup) (g : Seg) : Seg := ⟨roundI g.from_ s.unit, roundI g.to_ s.unit, g.kind, g.id, g.code⟩
def wantP (s : Setup) (l : List Seg) : List Seg := (l.map (rndG s)).filter fun g => decide (g.from_ < g.to_)
theorem wantP_snoc (s : Setup) (l : List Seg) (g : Seg) : wantP s (l ++ [g]) = if (rndG s g).from_ < (rndG s g).to_ then wantP s l ++ [rndG s g] else wantP s l := by
  unfold wantP
  rw [List.map_append, List.filter_append]
  by_cases h : (rndG s g).from_ < (rndG s g).to_
  · simp [h]
  · simp [h]
/-- The teller at a unit of 1, and at another one. -/
structure SimO (s : Setup) (a b : TellS) : Prop where
  opn : a.open_ = b.open_
  segs : b.segs = wantP s a.segs
  os : ∀ f os, a.open_ = some (f, os) → os = [] ∧ 0 ≤ f.at_ ∧ f.at_ ≤ 31449599
section
variable {s : Setup} {a b : TellS}
theorem SimO.close (hs : setupOk s = true) (h : b.segs = wantP s a.segs) {f : Ev} (h0 : 0 ≤ f.at_ ∧ f.at_ ≤ 31449599) {c : Int} (hc : f.at_ ≤ c) (hc2 : c ≤ 32054400) : (closeP s b f [] c).segs = wantP s (closeP (oneS s) a f [] c).segs := by
  obtain ⟨⟨u1, u2⟩, c1, c2⟩ := setup_times hs
  have e1 : (closeP s b f [] c).segs = (partP b (roundI f.at_ s.unit) (toP (roundI f.at_ s.unit) (roundI c s.unit) (roundI c s.unit)) f).segs := rfl
  have e2 : (closeP (oneS s) a f [] c).segs = (partP a (roundI f.at_ 1) (toP (roundI f.at_ 1) (roundI c 1) (roundI c 1)) f).segs := rfl
  have hm := round_mono u1 u2 hc
  rw [e1, e2, partP_segs, partP_segs, round_one h0.1 (by omega), round_one (t := c) (by omega) hc2]
  rw [show toP (roundI f.at_ s.unit) (roundI c s.unit) (roundI c s.unit) = roundI c s.unit by unfold toP; omega, show toP f.at_ c c = c by unfold toP; omega, h]
  by_cases hlt : f.at_ < c
  · rw [if_pos hlt, wantP_snoc]
    rfl
  · have : f.at_ = c := by omega
    rw [if_neg hlt, this, if_neg (by omega)]
theorem SimO.late (hs : setupOk s = true) (h : SimO s a b) (m : Int) : SimO s (lateP (oneS s) a m) (lateP s b m) := by
  obtain ⟨⟨u1, u2⟩, c1, c2⟩ := setup_times hs
  have hcap : (oneS s).cap = s.cap := rfl
  cases ho : a.open_ with
  | none =>
    have ho2 : b.open_ = none := h.opn ▸ ho
    have e1 : lateP (oneS s) a m = a := by unfold lateP; rw [ho]
    have e2 : lateP s b m = b := by unfold lateP; rw [ho2]
    rw [e1, e2]; exact h
  | some q =>
    obtain ⟨f, os⟩ := q
    have ho2 : b.open_ = some (f, os) := h.opn ▸ ho
    obtain ⟨k1, k2⟩ := h.os f os ho
    subst k1
    unfold lateP
    rw [ho, ho2, hcap]
    simp only
    rw [wr_fit (by unfold Fit; omega)]
    split
    · exact ⟨rfl, SimO.close (a := flagP a f 1) (b := flagP b f 1) hs h.segs k2 (by omega) (by omega), fun _ _ q => by cases q⟩
    · exact h
theorem SimO.next (hs : setupOk s = true) (h : SimO s a b) {e : Ev} (he : evOk s e = true) (hk : e.kind = 1 ∨ e.kind = 2) (hm : ∀ f os, a.open_ = some (f, os) → f.at_ ≤ e.at_) : SimO s (nextP (oneS s) a e) (nextP s b e) := by
  have hl := h.late hs e.at_
  have hat := (fair_fields (evOk_fair he)).2.2.2.1
  cases ho : (lateP (oneS s) a e.at_).open_ with
  | none =>
    have ho2 : (lateP s b e.at_).open_ = none := hl.opn ▸ ho
    unfold nextP
    rw [ho, ho2]
    simp only
    split
    · exact ⟨rfl, hl.segs, fun f os q => by injection q with q; injection q with q1 q2; subst q1; subst q2; exact ⟨rfl, hat⟩⟩
    · exact ⟨hl.opn, hl.segs, hl.os⟩
  | some q =>
    obtain ⟨f, os⟩ := q
    have ho2 : (lateP s b e.at_).open_ = some (f, os) := hl.opn ▸ ho
    obtain ⟨k1, k2⟩ := hl.os f os ho
    subst k1
    have hfe := hm f [] (late_open ho).2.1
    unfold nextP
    rw [ho, ho2]
    simp only
    split
    · have := SimO.close (a := flagP (lateP (oneS s) a e.at_) f 2) (b := flagP (lateP s b e.at_) f 2) hs hl.segs k2 hfe (by omega)
      exact ⟨rfl, this, fun f os q => by injection q with q; injection q with q1 q2; subst q1; subst q2; exact ⟨rfl, hat⟩⟩
    · rw [if_pos (by omega), if_pos (by omega)]
      exact ⟨rfl, SimO.close hs hl.segs k2 hfe (by omega), fun _ _ q => by cases q⟩
theorem next_opn {t : TellS} {e f : Ev} {os : List Ev} (hk : e.kind = 1 ∨ e.kind = 2) (h : (nextP s t e).open_ = some (f, os)) : f = e := by
  unfold nextP at h
  cases ho : (lateP s t e.at_).open_ with
  | none =>
    rw [ho] at h
    simp only at h
    split at h
    · injection h with h; injection h with h1 h2; exact h1.symm
    · have : (lateP s t e.at_).open_ = some (f, os) := h
      rw [ho] at this; cases this
  | some z =>
    obtain ⟨g, os2⟩ := z
    rw [ho] at h
    simp only at h
    split at h
    · injection h with h; injection h with h1 h2; exact h1.symm
    · rw [if_pos (by omega)] at h
      cases h
theorem fold_o (hs : setupOk s = true) {w : Int} : ∀ (l : List Ev) (a b : TellS), SimO s a b → (∀ f os, a.open_ = some (f, os) → ∀ e ∈ l, f.at_ ≤ e.at_) → l.Pairwise (fun a b => a.at_ ≤ b.at_) → (∀ e ∈ l, e.kind = 1 ∨ e.kind = 2) → SimO s (l.foldl (takeP (oneS s) w) a) (l.foldl (takeP s w) b)
  | [], a, b, h, _, _, _ => h
  | e :: l, a, b, h, hf, hs2, hk => by
    obtain ⟨k1, k2⟩ := List.pairwise_cons.1 hs2
    rw [List.foldl_cons, List.foldl_cons]
    cases hsel : selP s w e
    · have e1 : takeP (oneS s) w a e = a := by simp [takeP, selP_one, hsel]
      have e2 : takeP s w b e = b := by simp [takeP, hsel]
      rw [e1, e2]
      exact fold_o hs l a b h (fun f os q x hx => hf f os q x (.tail _ hx)) k2 fun x hx => hk x (.tail _ hx)
    · have e1 : takeP (oneS s) w a e = nextP (oneS s) a e := by simp [takeP, selP_one, hsel]
      have e2 : takeP s w b e = nextP s b e := by simp [takeP, hsel]
      rw [e1, e2]
      refine fold_o hs l _ _ (h.next hs (selP_iff.1 hsel).2.2 (hk e (.head _)) fun f os q => hf f os q e (.head _)) (fun f os q x hx => ?_) k2 fun x hx => hk x (.tail _ hx)
      rw [next_opn (hk e (.head _)) q]
      exact k1 x hx
end
theorem stream_rounds {s : Setup} {l : List Ev} {w : Int} (hs : setupOk s = true) : (streamP s (l.filter punchP) w).1 = wantP s (streamP (oneS s) (l.filter punchP) w).1 := by
  unfold streamP
  rw [if_pos hs, if_pos (setup_one hs)]
  have h0 : SimO s ⟨none, [], []⟩ ⟨none, [], []⟩ := ⟨rfl, rfl, fun _ _ h => (by cases h)⟩
  have := fold_o hs (w := w) (stabE (l.filter punchP)) _ _ h0 (fun _ _ h => (by cases h)) (srt_at (stabE_srt _)) fun e he => punchP_iff.1 (List.mem_filter.1 (mem_stabE.1 he)).2
  exact (this.late hs _).segs
/-! Flags. -/
structure FlagIn (done : List Ev) (t : TellS) (G : List (Ev × Int)) : Prop where
  flags : t.flags = G.map fun p => ⟨p.1.id, p.2⟩
  mem : ∀ p ∈ G, p.1 ∈ done ∧ (p.1.kind = 1 ↔ (p.2 = 1 ∨ p.2 = 2))
  nodup : (G.map (·.1.id)).Nodup
  opn : ∀ f os, t.open_ = some (f, os) → f ∈ done ∧ f.kind = 1 ∧ ∀ p ∈ G, p.1.id ≠ f.id
  cnt : (done.countP fun e => e.kind == 1) + (G.countP fun p => p.1.kind == 2) = (done.countP fun e => e.kind == 2) + (G.countP fun p => p.1.kind == 1) + (if t.open_.isSome then 1 else 0)
section
variable {s : Setup} {t : TellS} {done : List Ev} {G : List (Ev × Int)}
theorem late_flag (h : FlagIn done t G) (m : Int) : ∃ G', FlagIn done (lateP s t m) G' := by
  cases ho : t.open_ with
  | none =>
    have e1 : lateP s t m = t := by unfold lateP; rw [ho]
    rw [e1]; exact ⟨G, h⟩
  | some q =>
    obtain ⟨f, os⟩ := q
    obtain ⟨k1, k2, k3⟩ := h.opn f os ho
    have hc := h.cnt
    rw [ho] at hc
    unfold lateP
    rw [ho]
    simp only
    split
    · refine ⟨G ++ [(f, 1)], ?_, ?_, ?_, fun _ _ q => (by cases q), ?_⟩
      · show t.flags ++ [⟨f.id, 1⟩] = _
        rw [h.flags]; simp
      · intro p hp
        rcases List.mem_append.1 hp with hp | hp
        · exact h.mem p hp
        · simp at hp; subst hp; exact ⟨k1, by simp [k2]⟩
      · rw [List.map_append, List.nodup_append]
        refine ⟨h.nodup, by simp, fun x hx y hy => ?_⟩
        obtain ⟨p, hp, rfl⟩ := List.mem_map.1 hx
        simp at hy; subst hy
        exact k3 p hp
      · have : (closeP s (flagP t f 1) f os (wr (f.at_ + s.cap))).open_.isSome = false := rfl
        rw [this, List.countP_append, List.countP_append]
        simp [k2] at hc ⊢
        omega
    · exact ⟨G, h⟩
theorem next_flag (h : FlagIn done t G) {e : Ev} (hf : ∀ x ∈ done, x.id ≠ e.id) : ∃ G', FlagIn (done ++ [e]) (nextP s t e) G' := by
  obtain ⟨G, h⟩ := late_flag (s := s) h e.at_
  generalize hd : lateP s t e.at_ = t1 at h
  have hin : ∀ p ∈ G, p.1 ∈ done ++ [e] := fun p hp => List.mem_append_left _ (h.mem p hp).1
  have hg : ∀ p ∈ G, p.1.id ≠ e.id := fun p hp => hf _ (h.mem p hp).1
  have hc := h.cnt
  unfold nextP
  rw [hd]
  by_cases h1 : e.kind = 1
  · rw [if_pos h1]
    cases ho : t1.open_ with
    | none =>
      simp only
      refine ⟨G, h.flags, fun p hp => ⟨hin p hp, (h.mem p hp).2⟩, h.nodup, fun f os q => ?_, ?_⟩
      · injection q with q; injection q with q1 q2; subst q1
        exact ⟨by simp, h1, hg⟩
      · rw [ho] at hc
        rw [List.countP_append, List.countP_append]
        simp [h1] at hc ⊢
        omega
    | some q =>
      obtain ⟨f, os⟩ := q
      obtain ⟨k1, k2, k3⟩ := h.opn f os ho
      simp only
      refine ⟨G ++ [(f, 2)], ?_, ?_, ?_, fun f' os' q => ?_, ?_⟩
      · show t1.flags ++ [⟨f.id, 2⟩] = _
        rw [h.flags]; simp
      · intro p hp
        rcases List.mem_append.1 hp with hp | hp
        · exact ⟨hin p hp, (h.mem p hp).2⟩
        · simp at hp; subst hp; exact ⟨List.mem_append_left _ k1, by simp [k2]⟩
      · rw [List.map_append, List.nodup_append]
        refine ⟨h.nodup, by simp, fun x hx y hy => ?_⟩
        obtain ⟨p, hp, rfl⟩ := List.mem_map.1 hx
        simp at hy; subst hy
        exact k3 p hp
      · injection q with q; injection q with q1 q2; subst q1
        refine ⟨by simp, h1, fun p hp => ?_⟩
        rcases List.mem_append.1 hp with hp | hp
        · exact hg p hp
        · simp at hp; subst hp; exact hf f k1
      · rw [ho] at hc
        rw [List.countP_append, List.countP_append, List.countP_append, List.countP_append]
        simp [h1, k2] at hc ⊢
        omega
  · rw [if_neg h1]
    cases ho : t1.open_ with
    | none =>
      simp only
      refine ⟨G ++ [(e, 3)], ?_, ?_, ?_, fun f' os' q => ?_, ?_⟩
      · show t1.flags ++ [⟨e.id, 3⟩] = _
        rw [h.flags]; simp
      · intro p hp
        rcases List.mem_append.1 hp with hp | hp
        · exact ⟨hin p hp, (h.mem p hp).2⟩
        · simp at hp; subst hp; exact ⟨by simp, by simp [h1]⟩
      · rw [List.map_append, List.nodup_append]
        refine ⟨h.nodup, by simp, fun x hx y hy => ?_⟩
        obtain ⟨p, hp, rfl⟩ := List.mem_map.1 hx
        simp at hy; subst hy
        exact hg p hp
      · have q : t1.open_ = some (f', os') := q
        rw [ho] at q; cases q
      · have ho' : (flagP t1 e 3).open_ = none := ho
        rw [ho] at hc
        rw [ho', List.countP_append, List.countP_append, List.countP_append, List.countP_append]
        by_cases h2 : e.kind = 2
        · simp [h1, h2] at hc ⊢
          omega
        · simp [h1, h2] at hc ⊢
          omega
    | some q =>
      obtain ⟨f, os⟩ := q
      obtain ⟨k1, k2, k3⟩ := h.opn f os ho
      simp only
      split
      · rename_i h2
        refine ⟨G, h.flags, fun p hp => ⟨hin p hp, (h.mem p hp).2⟩, h.nodup, fun _ _ q => (by cases q), ?_⟩
        have : (closeP s t1 f os e.at_).open_.isSome = false := rfl
        rw [ho] at hc
        rw [this, List.countP_append, List.countP_append]
        simp [h2] at hc ⊢
        omega
      · rename_i h2
        refine ⟨G, h.flags, fun p hp => ⟨hin p hp, (h.mem p hp).2⟩, h.nodup, fun f' os' q => ?_, ?_⟩
        · injection q with q; injection q with q1 q2; subst q1
          exact ⟨List.mem_append_left _ k1, k2, k3⟩
        · rw [ho] at hc
          rw [List.countP_append, List.countP_append]
          simp [h1, h2] at hc ⊢
          omega
theorem fold_flag : ∀ (l : List Ev) (done : List Ev) (t : TellS) (G : List (Ev × Int)), FlagIn done t G → ((done ++ l).map (·.id)).Nodup → ∃ G', FlagIn (done ++ l) (l.foldl (nextP s) t) G'
  | [], done, t, G, h, _ => ⟨G, by simpa using h⟩
  | e :: l, done, t, G, h, hn => by
    have hf : ∀ x ∈ done, x.id ≠ e.id := fun x hx => by
      rw [List.map_append, List.nodup_append] at hn
      exact hn.2.2 _ (List.mem_map_of_mem hx) _ (by simp)
    obtain ⟨G', h'⟩ := next_flag (s := s) h hf
    have := fold_flag l (done ++ [e]) (nextP s t e) G' h' (by rw [List.append_assoc]; exact hn)
    rw [List.append_assoc] at this
    rw [List.foldl_cons]
    exact this
end
theorem ins_perm (x : Ev) : ∀ (l : List Ev), (insE x l).Perm (x :: l)
  | [] => .refl _
  | y :: l => by
    rw [insE_cons]
    split
    · exact ((ins_perm x l).cons y).trans (.swap x y l)
    · exact .refl _
theorem stabE_is_perm : ∀ (l : List Ev), (stabE l).Perm l
  | [] => .refl _
  | x :: l => (ins_perm x (stabE l)).trans ((stabE_is_perm l).cons x)
/-- What flags say. -/
theorem stream_flags {s : Setup} {l : List Ev} {w : Int} (hs : setupOk s = true) (hn : (l.map (·.id)).Nodup) :
    ∃ G : List (Ev × Int), (streamP s l w).2 = G.map (fun p => ⟨p.1.id, p.2⟩) ∧ (∀ p ∈ G, p.1 ∈ l ∧ (p.1.kind = 1 ↔ (p.2 = 1 ∨ p.2 = 2))) ∧ (G.map (·.1.id)).Nodup ∧
      (l.countP fun e => selP s w e && e.kind == 1) + (G.countP fun p => p.1.kind == 2) = (l.countP fun e => selP s w e && e.kind == 2) + (G.countP fun p => p.1.kind == 1) := by
  obtain ⟨⟨u1, u2⟩, c1, c2⟩ := setup_times hs
  have hperm : (stabE (l.filter (selP s w))).Perm (l.filter (selP s w)) := stabE_is_perm _
  have hn2 : ((stabE (l.filter (selP s w))).map (·.id)).Nodup := (hperm.map _).nodup_iff.2 (hn.sublist (List.filter_sublist.map _))
  obtain ⟨G, h⟩ := fold_flag (s := s) (stabE (l.filter (selP s w))) [] ⟨none, [], []⟩ [] ⟨rfl, fun _ h => (by cases h), .nil, fun _ _ h => (by cases h), rfl⟩ (by simpa using hn2)
  rw [List.nil_append, ← go_sel] at h
  have hopn : (lateP s (goP s w (stabE l)) 32054400).open_ = none := by
    cases ho : (lateP s (goP s w (stabE l)) 32054400).open_ with
    | none => rfl
    | some q =>
      obtain ⟨f, os⟩ := q
      exfalso
      obtain ⟨q1, q2, q3⟩ := late_open ho
      have hf := (h.opn f os q2).1
      have hf := mem_stabE.1 hf
      have hat := (fair_fields (evOk_fair (selP_iff.1 (List.mem_filter.1 hf).2).2.2)).2.2.2.1
      rw [wr_fit (by unfold Fit; omega)] at q3
      omega
  obtain ⟨G, h⟩ := late_flag (s := s) h 32054400
  refine ⟨G, ?_, fun p hp => ⟨?_, (h.mem p hp).2⟩, h.nodup, ?_⟩
  · unfold streamP
    rw [if_pos hs]
    exact h.flags
  · exact (List.mem_filter.1 (mem_stabE.1 (h.mem p hp).1)).1
  · have hc := h.cnt
    rw [hopn, hperm.countP_eq, hperm.countP_eq, List.countP_filter, List.countP_filter] at hc
    simp only [Bool.and_comm] at hc ⊢
    simpa using hc
end Go.Proofs.YtpdghiplnlhnfaaGreat.Ax
