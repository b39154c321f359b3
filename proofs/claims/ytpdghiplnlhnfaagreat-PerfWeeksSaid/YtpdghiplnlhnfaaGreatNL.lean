/-
  Joined: TabN, GoalsP. Nothing is proved here of a statement.
-/
import Derived.Test.YtpdghiplnlhnfaaGreatNK
namespace Go.Proofs.YtpdghiplnlhnfaaGreat.Ax
set_option linter.unusedSimpArgs false
set_option linter.unusedVariables false
open Go Go.Proofs
theorem mat_set {D : Mat} {a b a' b' : Nat} {n : Int} : matAt (matSet D a b n) a' b' = matAt D a' b' ∨ (a' = a ∧ b' = b ∧ matAt (matSet D a b n) a' b' = n) := by
  by_cases ha : a' = a
  · subst ha
    by_cases hb : b' = b
    · subst hb
      by_cases h1 : a' < D.length
      · by_cases h2 : b' < (D.getD a' []).length
        · right
          refine ⟨rfl, rfl, ?_⟩
          unfold matAt matSet
          rw [List.getD_eq_getElem?_getD (l := D.set _ _), List.getElem?_set_self h1, Option.getD_some, List.getD_eq_getElem?_getD, List.getElem?_set_self h2, Option.getD_some]
        · left
          have : (D.getD a' []).set b' n = D.getD a' [] := List.set_eq_of_length_le (by omega)
          unfold matAt matSet
          rw [this, List.getD_eq_getElem?_getD (l := D.set _ _), List.getElem?_set_self h1, Option.getD_some]
      · left
        have : matSet D a' b' n = D := List.set_eq_of_length_le (by omega)
        rw [this]
    · left
      unfold matAt matSet
      by_cases h1 : a' < D.length
      · rw [List.getD_eq_getElem?_getD (l := D.set _ _), List.getElem?_set_self h1, Option.getD_some, List.getD_eq_getElem?_getD, List.getElem?_set_ne (by omega), ← List.getD_eq_getElem?_getD]
      · rw [List.set_eq_of_length_le (by omega)]
  · left
    unfold matAt matSet
    rw [List.getD_eq_getElem?_getD (l := D.set _ _), List.getElem?_set_ne (by omega), ← List.getD_eq_getElem?_getD]
theorem mat_near {D : Mat} {a b a' b' : Nat} {n : Int} : matAt (nearP D a b n) a' b' = matAt D a' b' ∨ (a' = a ∧ b' = b ∧ matAt (nearP D a b n) a' b' = n ∧ (matAt D a b = -1 ∨ n < matAt D a b)) := by
  unfold nearP
  split
  · rename_i h
    rcases mat_set (D := D) (a := a) (b := b) (a' := a') (b' := b') (n := n) with h1 | ⟨h1, h2, h3⟩
    · exact .inl h1
    · exact .inr ⟨h1, h2, h3, h⟩
  · exact .inl rfl
def MB (D : Mat) (B : Int) : Prop := ∀ a b, -1 ≤ matAt D a b ∧ matAt D a b ≤ B
/-- What holds while all ways by one place are taken. -/
def PH (y : Nat) (B : Int) (D : Mat) : Prop := ∀ a b, -1 ≤ matAt D a b ∧ matAt D a b ≤ 2 * B ∧ (a = y ∨ b = y → matAt D a b ≤ B)
theorem ph_viaB {y : Nat} {B : Int} {D : Mat} (hB : 0 ≤ B ∧ B ≤ 1152921504606846976) (h : PH y B D) {a b : Nat} (ha : matAt D a y ≠ -1) : PH y B (viaB b y a D) ∧ matAt (viaB b y a D) a y ≠ -1 := by
  unfold viaB
  by_cases hb : matAt D y b = -1
  · rw [if_neg (by simpa using hb)]
    exact ⟨h, ha⟩
  · rw [if_pos hb]
    obtain ⟨h1, _, h2⟩ := h a y
    obtain ⟨h3, _, h4⟩ := h y b
    have h2 := h2 (.inr rfl)
    have h4 := h4 (.inl rfl)
    have hw : wr (matAt D a y + matAt D y b) = matAt D a y + matAt D y b := wr_fit (by unfold Fit; omega)
    rw [hw]
    constructor
    · intro a' b'
      rcases mat_near (D := D) (a := a) (b := b) (a' := a') (b' := b') (n := matAt D a y + matAt D y b) with e | ⟨e1, e2, e3, e4⟩
      · rw [e]; exact h a' b'
      · rw [e3]
        refine ⟨by omega, by omega, fun hq => ?_⟩
        subst e1 e2
        obtain ⟨g1, g2, g3⟩ := h a' b'
        have g3 := g3 hq
        rcases e4 with e4 | e4
        · rcases hq with rfl | rfl
          · exact absurd e4 hb
          · exact absurd e4 ha
        · omega
    · rcases mat_near (D := D) (a := a) (b := b) (a' := a) (b' := y) (n := matAt D a y + matAt D y b) with e | ⟨e1, e2, e3, e4⟩
      · rw [e]; exact ha
      · rw [e3]; omega
theorem ph_foldB {y : Nat} {B : Int} (hB : 0 ≤ B ∧ B ≤ 1152921504606846976) {a : Nat} : ∀ (L : List Nat) {D : Mat}, PH y B D → matAt D a y ≠ -1 → PH y B (L.foldl (fun D b => viaB b y a D) D)
  | [], _, h, _ => h
  | b :: L, D, h, ha => by
    obtain ⟨h1, h2⟩ := ph_viaB hB h (b := b) ha
    exact ph_foldB hB L h1 h2
theorem ph_viaA {n y : Nat} {B : Int} (hB : 0 ≤ B ∧ B ≤ 1152921504606846976) {D : Mat} (h : PH y B D) (a : Nat) : PH y B (viaA n y D a) := by
  unfold viaA
  split
  · exact h
  · rename_i ha
    exact ph_foldB hB _ h ha
theorem ph_foldA {n y : Nat} {B : Int} (hB : 0 ≤ B ∧ B ≤ 1152921504606846976) : ∀ (L : List Nat) {D : Mat}, PH y B D → PH y B (L.foldl (viaA n y) D)
  | [], _, h => h
  | a :: L, _, h => ph_foldA hB L (ph_viaA hB h a)
theorem mb_viaY {n y : Nat} {B : Int} (hB : 0 ≤ B ∧ B ≤ 1152921504606846976) {D : Mat} (h : MB D B) : MB (viaY n D y) (2 * B) := by
  have h0 : PH y B D := fun a b => by
    have := h a b
    exact ⟨this.1, by omega, fun _ => this.2⟩
  have h1 := ph_foldA (n := n) hB (List.range n) h0
  exact fun a b => ⟨(h1 a b).1, (h1 a b).2.1⟩
theorem mb_fold {n : Nat} : ∀ (L : List Nat) {B : Int} {D : Mat}, 0 ≤ B → B * 2 ^ L.length ≤ 1152921504606846976 → MB D B → MB (L.foldl (viaY n) D) (B * 2 ^ L.length)
  | [], B, D, _, _, h => by simpa using h
  | y :: L, B, D, h0, hB, h => by
    have e : B * 2 ^ (y :: L).length = 2 * B * 2 ^ L.length := by
      rw [List.length_cons, Int.pow_succ]; grind
    have hp : (1 : Int) ≤ 2 ^ L.length := by
      have : 0 < (2 : Int) ^ L.length := Int.pow_pos (by decide)
      omega
    have h2 : 2 * B ≤ 2 * B * 2 ^ L.length := by
      have := Int.mul_le_mul_of_nonneg_left hp (show 0 ≤ 2 * B by omega)
      omega
    rw [e] at hB ⊢
    rw [List.foldl_cons]
    exact mb_fold L (by omega) hB (mb_viaY ⟨h0, by omega⟩ h)
theorem mb_near {D : Mat} {B n : Int} (h : MB D B) (hn : -1 ≤ n ∧ n ≤ B) (a b : Nat) : MB (nearP D a b n) B := fun a' b' => by
  rcases mat_near (D := D) (a := a) (b := b) (a' := a') (b' := b') (n := n) with e | ⟨_, _, e, _⟩
  · rw [e]; exact h a' b'
  · rw [e]; exact hn
theorem mb_ways {B : Int} : ∀ (L : List Way) {D : Mat}, MB D B → (∀ w ∈ L, -1 ≤ w.2.2 ∧ w.2.2 ≤ B) → MB (L.foldl wayP D) B
  | [], _, h, _ => h
  | w :: L, _, h, hw => mb_ways L (mb_near (mb_near h (hw w (by simp)) _ _) (hw w (by simp)) _ _) fun x hx => hw x (by simp [hx])
theorem mb_mat0 (n : Nat) : MB (matP0 n) 10000 := fun a b => by
  have key : matAt (matP0 n) a b = 0 ∨ matAt (matP0 n) a b = -1 := by
    unfold matAt matP0
    rw [List.getD_eq_getElem?_getD (l := List.map _ _), List.getElem?_map]
    by_cases h : a < n
    · rw [List.getElem?_range h]
      simp only [Option.map_some, Option.getD_some, rowP]
      rw [List.getD_eq_getElem?_getD]
      by_cases hb : b < n
      · by_cases hab : a = b
        · subst hab
          rw [List.getElem?_set_self (by simpa using hb)]; simp
        · rw [List.getElem?_set_ne hab, List.getElem?_replicate, if_pos hb]; simp
      · rw [List.getElem?_eq_none (by simp; omega)]; simp
    · rw [List.getElem?_eq_none (l := List.range n) (by simp; omega)]; simp
  omega
theorem allI_pair {lo hi : Int} {l : List Int} (h : (!allI lo hi l) = false) {x : Int} (hx : x ∈ l) : lo ≤ x ∧ x ≤ hi := allI_mem (by simpa using h) hx
theorem far_nn {s : Setup} (hs : setupOk s = true) (e : Ev) : -1 ≤ farP s e := by
  simp only [setupOk, placesOk, Bool.and_eq_true] at hs
  obtain ⟨⟨⟨⟨⟨hp, _⟩, hw⟩, _⟩, _⟩, _⟩ := hs
  have hp := allI_mem (x := s.places) hp (by simp)
  have hways : ∀ w ∈ s.ways, -1 ≤ w.2.2 ∧ w.2.2 ≤ 10000 := fun w hmem => by
    simp only [Bool.not_eq_true', List.any_eq_false] at hw
    have := hw w hmem
    simp only [wayBad, Bool.or_eq_true, not_or, Bool.not_eq_true] at this
    have := allI_pair this.2 (x := w.2.2) (by simp)
    omega
  have h1 := mb_ways s.ways (mb_mat0 s.places.toNat) hways
  have hpow : (2 : Int) ^ s.places.toNat ≤ 65536 := by
    have h2 : (2 : Nat) ^ s.places.toNat ≤ 2 ^ 16 := Nat.pow_le_pow_right (by decide) (by omega)
    have h3 : ((2 ^ s.places.toNat : Nat) : Int) ≤ ((2 ^ 16 : Nat) : Int) := Int.ofNat_le.2 h2
    rw [Int.natCast_pow] at h3
    exact h3
  have h2 := mb_fold (n := s.places.toNat) (List.range s.places.toNat) (B := 10000) (by decide) (by rw [List.length_range]; omega) h1
  exact (h2 _ _).1
end Go.Proofs.YtpdghiplnlhnfaaGreat.Ax

namespace Go.Proofs.YtpdghiplnlhnfaaGreat.Ax
set_option linter.unusedSimpArgs false
set_option linter.unusedVariables false
open Go Go.Proofs
/-! No goal is less than none. -/
theorem make_nn {n d : Int} (hn : -9223372036854775807 ≤ n ∧ n ≤ 9223372036854775807) (hd : 0 < d ∧ d ≤ 9223372036854775807) (h : 0 ≤ n) : 0 ≤ (make n d).1.1 := by
  obtain ⟨a, b, g, h1, h2, h3, h4, h5, e⟩ := make_red hn hd
  rw [e]
  split
  · decide
  · simp only
    rcases Int.lt_or_le a 0 with ha | ha
    · have := Int.mul_neg_of_pos_of_neg h1 ha
      omega
    · exact ha
theorem add_lo {a b : Rat2} (ha : Lo a) (hb : Lo b) : twoR addV a b = make (a.1 * b.2 + b.1 * a.2) (a.2 * b.2) ∧ (-9223372036854775807 ≤ a.1 * b.2 + b.1 * a.2 ∧ a.1 * b.2 + b.1 * a.2 ≤ 9223372036854775807) ∧ (0 < a.2 * b.2 ∧ a.2 * b.2 ≤ 9223372036854775807) := by
  have := ha.num; have := ha.den; have := ha.pos; have := hb.num; have := hb.den; have := hb.pos
  have m1 := mul_bd (x := a.1) (y := b.2) (by omega) (by omega) (by omega) (by omega)
  have m2 := mul_bd (x := b.1) (y := a.2) (by omega) (by omega) (by omega) (by omega)
  have m3 := mul_bd (x := a.2) (y := b.2) (by omega) (by omega) (by omega) (by omega)
  have m4 := Int.mul_pos ha.pos hb.pos
  refine ⟨?_, by omega, by omega⟩
  rw [two_lo ha hb]
  show make (wr (wr (a.1 * b.2) + wr (b.1 * a.2))) (wr (a.2 * b.2)) = _
  rw [wr_fit (n := a.1 * b.2) (by unfold Fit; omega), wr_fit (n := b.1 * a.2) (by unfold Fit; omega), wr_fit (n := a.1 * b.2 + b.1 * a.2) (by unfold Fit; omega), wr_fit (n := a.2 * b.2) (by unfold Fit; omega)]
theorem two_cases (v : Rat2 → Rat2 → Int × Int) (a b : Rat2) : twoR v a b = ((0, 0), 20) ∨ (Lo a ∧ Lo b) := by
  unfold twoR
  by_cases h : (rok a && rok b) = true
  · right
    simp only [Bool.and_eq_true] at h
    exact ⟨rok_lo h.1, rok_lo h.2⟩
  · left; rw [if_neg h]
theorem mul_nn {a b : Rat2} (ha : 0 ≤ a.1) (hb : 0 ≤ b.1) : 0 ≤ (mulR a b).1.1 := by
  rcases two_cases mulV a b with h | ⟨la, lb⟩
  · show 0 ≤ (twoR mulV a b).1.1
    rw [h]; decide
  · obtain ⟨e, h1, h2⟩ := mul_lo la lb
    rw [e]
    exact make_nn h1 h2 (Int.mul_nonneg ha hb)
theorem add2_nn {a b : Rat2} (ha : 0 ≤ a.1) (hb : 0 ≤ b.1) : 0 ≤ (twoR addV a b).1.1 := by
  rcases two_cases addV a b with h | ⟨la, lb⟩
  · rw [h]; decide
  · obtain ⟨e, h1, h2⟩ := add_lo la lb
    rw [e]
    exact make_nn h1 h2 (Int.add_nonneg (Int.mul_nonneg ha (Int.le_of_lt lb.pos)) (Int.mul_nonneg hb (Int.le_of_lt la.pos)))
theorem sumG_nn : ∀ (l : List Rat2) {o : Rat2}, 0 ≤ o.1 → (∀ p ∈ l, 0 ≤ p.1) → 0 ≤ (sumG o l).1.1
  | [], _, h, _ => h
  | r :: l, o, h, hl => by
    rw [sumG]
    split
    · simp
    · exact sumG_nn l (add2_nn h (hl r (by simp))) fun p hp => hl p (by simp [hp])
theorem sum_nn {l : List Rat2} (hl : ∀ p ∈ l, 0 ≤ p.1) : 0 ≤ (sumR l).1.1 := by
  unfold sumR
  split
  · exact sumG_nn l (by decide) hl
  · decide
theorem addR_nn {a b : Rat2} (ha : 0 ≤ a.1) (hb : 0 ≤ b.1) : 0 ≤ (addR a b).1.1 := sum_nn fun p hp => by
  simp only [List.mem_cons, List.not_mem_nil, or_false] at hp
  rcases hp with rfl | rfl
  · exact ha
  · exact hb
theorem then_nn {f : Rat2 → Rat2 → Rat2 × Int} {a b : Rat2} {w : Int} (hf : 0 ≤ (f a b).1.1) : 0 ≤ (thenP f a b w).1.1 := by
  unfold thenP
  simp only
  split
  · exact hf
  · decide
theorem shares_nn {l : List Rat2} (h : sharesI l = true) {p : Rat2} (hp : p ∈ l) : 0 ≤ p.1 := by
  have h' : (!l.any shareOk) = true := h
  simp only [Bool.not_eq_true', List.any_eq_false] at h'
  have := h' p hp
  simp [shareOk] at this
  omega
theorem ratAt_nn {l : List Rat2} (h : ∀ p ∈ l, 0 ≤ p.1) (i : Int) : 0 ≤ (ratAt l i).1 := by
  unfold ratAt
  rw [List.getD_eq_getElem?_getD]
  by_cases hi : i.toNat < l.length
  · rw [List.getElem?_eq_getElem hi]; exact h _ (List.getElem_mem hi)
  · rw [List.getElem?_eq_none (by omega)]; decide
theorem eltAt_nn {l : List Elt} (h : ∀ p ∈ l, 0 ≤ p.1.1 ∧ 0 ≤ p.2.1) (i : Int) : 0 ≤ (eltAt l i).1.1 ∧ 0 ≤ (eltAt l i).2.1 := by
  unfold eltAt
  rw [List.getD_eq_getElem?_getD]
  by_cases hi : i.toNat < l.length
  · rw [List.getElem?_eq_getElem hi]; exact h _ (List.getElem_mem hi)
  · rw [List.getElem?_eq_none (by omega)]; decide
theorem units_nn {e : Ev} (h : fairOk e = true) (hk : e.kind = 3) : 0 ≤ e.units := by
  simp only [fairOk, Bool.and_eq_true] at h
  have h5 := h.2.2.2.2
  unfold fieldsOk at h5
  simp [hk] at h5
  omega
theorem goal_nn {s : Setup} (hs : setupOk s = true) (e : Ev) : 0 ≤ (goalP s e).1.1 := by
  unfold goalP
  by_cases h : (setupOk s && (evOk s e && e.kind == 3)) = true
  · rw [if_pos h]
    by_cases hfar : farP s e = -1
    · rw [if_pos hfar]; decide
    · rw [if_neg hfar]
      by_cases h2 : (stepsP s e (farP s e)).2 = 0
      · rw [if_pos h2]
        have hf := far_nn hs e
        simp only [Bool.and_eq_true, beq_iff_eq] at h
        have hu := units_nn (evOk_fair h.2.1) h.2.2
        have hs' := hs
        simp only [setupOk, tablesOk, timesOk, Bool.and_eq_true] at hs'
        have hal := allI_mem (x := s.allow) hs'.1.2.1.1.1.1.1 (by simp)
        obtain ⟨⟨⟨⟨t1, t2⟩, t3⟩, t4⟩, _⟩ := hs'.1.1.2
        have p1 := shares_nn t1 (p := s.pace) (by simp)
        have p2 : ∀ p ∈ s.classes, 0 ≤ p.1 := fun p hp => shares_nn t2 hp
        have p3 : ∀ p ∈ s.gears, 0 ≤ p.1 := fun p hp => shares_nn t3 hp
        have p4 : ∀ p ∈ s.elements, 0 ≤ p.1.1 ∧ 0 ≤ p.2.1 := fun p hp => by
          simp only [Bool.not_eq_true', List.any_eq_false] at t4
          have := t4 p hp
          simp only [eltBad, Bool.not_eq_true, Bool.not_eq_false'] at this
          exact ⟨shares_nn this (by simp), shares_nn this (by simp)⟩
        have pm : 0 ≤ (make (wr (100 + s.allow)) 100).1.1 := by
          rw [wr_fit (by unfold Fit; omega)]
          exact make_nn (by omega) (by omega) (by omega)
        have q1 := ratAt_nn p3 e.gear
        have q2 := ratAt_nn p2 e.class_
        obtain ⟨q3, q4⟩ := eltAt_nn p4 e.element
        unfold stepsP
        exact then_nn (mul_nn (then_nn (addR_nn (then_nn (mul_nn (then_nn (mul_nn (show 0 ≤ farP s e by omega) p1)) q1)) (then_nn (mul_nn (then_nn (addR_nn q3 (then_nn (mul_nn q4 hu)))) q2)))) pm)
      · rw [if_neg h2]; simp
  · rw [if_neg h]; decide
/-! The goals that the law reckons. -/
def goalsE (s : Setup) (l : List Ev) (g : Seg) : List Rat2 := (l.filter fun e => e.id == g.id).map fun e => (goalP s e).1
def goalsL (s : Setup) (l : List Ev) (k : Int) (segs : List Seg) : List Rat2 := (segs.filter (partOf k)).flatMap (goalsE s l)
theorem filter_id : ∀ {l : List Ev}, (l.map (·.id)).Nodup → ∀ {e : Ev}, e ∈ l → l.filter (fun x => x.id == e.id) = [e]
  | [], _, _, h => by cases h
  | y :: l, hn, e, h => by
    rw [List.map_cons, List.nodup_cons] at hn
    rcases List.mem_cons.1 h with rfl | h
    · rw [List.filter_cons, if_pos (by simp)]
      congr 1
      refine List.filter_eq_nil_iff.2 fun x hx => ?_
      intro hq
      exact hn.1 (List.mem_map.2 ⟨x, hx, by simpa using hq⟩)
    · have hne : y.id ≠ e.id := fun hq => hn.1 (by rw [hq]; exact List.mem_map.2 ⟨e, h, rfl⟩)
      rw [List.filter_cons, if_neg (by simpa using hne)]
      exact filter_id hn.2 h
theorem id_one : ∀ {l : List Ev}, (l.map (·.id)).Nodup → ∀ {a b : Ev}, a ∈ l → b ∈ l → a.id = b.id → a = b := fun hn a b ha hb h => by
  have h1 := filter_id hn ha
  have h2 := filter_id hn hb
  rw [h, h2] at h1
  exact (List.singleton_inj.1 h1).symm
theorem own_stream {s : Setup} {l : List Ev} {w : Int} (hn : (l.map (·.id)).Nodup) : streamP s (ownP s w l) w = streamP s l w := by
  have hp : ((ownP s w l).filter (selP s w)).Perm (l.filter (selP s w)) := by
    rw [own_eq]
    refine ((stabE_is_perm _).filter _).trans ?_
    rw [List.filter_filter]
    have : l.filter (fun a => selP s w a && !notOwn s w a) = l.filter (selP s w) := by
      refine List.filter_congr fun e _ => ?_
      unfold selP notOwn
      by_cases hw : e.worker = w
      · simp [hw]
      · simp [hw]
    rw [this]
  have hn2 : (((ownP s w l).filter (selP s w)).map (·.id)).Nodup := by
    refine (hp.map _).nodup_iff.2 ?_
    exact hn.sublist (List.filter_sublist.map _)
  unfold streamP
  rw [go_sel, go_sel, stabE_perm hp hn2]
theorem kind_task {k : Int} (h : kindI k = 1) : k = 3 := by
  unfold kindI at h
  split at h
  · assumption
  · split at h
    · exact absurd h (by decide)
    · split at h
      · exact absurd h (by decide)
      · exact absurd h (by decide)
theorem goals_same {s : Setup} {l : List Ev} {w k : Int} (hs : setupOk s = true) (hn : (l.map (·.id)).Nodup) : goalsL s l k (streamP s l w).1 = goalsP s (ownP s w l) k (streamP s l w).1 := by
  obtain ⟨_, hseg⟩ := stream_rise (s := s) (l := l) (w := w) hs
  have key : ∀ L : List Seg, (∀ g ∈ L, partOf k g = true ∧ g ∈ (streamP s l w).1) → L.flatMap (goalsE s l) = L.map fun g => (goalP s (taskOf (ownP s w l) g)).1 := fun L => by
    induction L with
    | nil => intro _; rfl
    | cons g L ih =>
      intro h
      obtain ⟨hg, hin⟩ := h g (by simp)
      obtain ⟨e, ⟨h1, h2, h3⟩, h4, h5, _⟩ := hseg g hin
      simp only [partOf, Bool.and_eq_true, beq_iff_eq] at hg
      have hk : e.kind = 3 := kind_task (by rw [← h5]; exact hg.1)
      obtain ⟨hw, _, hok⟩ := selP_iff.1 h2
      have hmem : e ∈ ownP s w l := by
        rw [own_eq, mem_stabE]
        exact List.mem_filter.2 ⟨h1, by simp [notOwn, hw, hok]⟩
      have htask : taskOf (ownP s w l) g = e := by
        unfold taskOf
        have hsome : ((ownP s w l).find? (isTask g.id)).isSome = true := by
          rw [List.find?_isSome]
          exact ⟨e, hmem, by simp [isTask, h4, hk]⟩
        obtain ⟨x, hx⟩ := Option.isSome_iff_exists.1 hsome
        rw [hx, Option.getD_some]
        have hxm := List.mem_of_find?_eq_some hx
        have hxp := List.find?_some hx
        simp only [isTask, Bool.and_eq_true, beq_iff_eq] at hxp
        have hxl : x ∈ l := by
          rw [own_eq, mem_stabE] at hxm
          exact (List.mem_filter.1 hxm).1
        exact id_one hn hxl h1 (by rw [hxp.1, h4])
      have hE : goalsE s l g = [(goalP s e).1] := by
        unfold goalsE
        rw [h4, filter_id hn h1]; rfl
      rw [List.flatMap_cons, List.map_cons, hE, htask, ih fun g' hg' => h g' (by simp [hg'])]
      rfl
  unfold goalsL goalsP selG
  exact key _ fun g hg => by
    obtain ⟨h1, h2⟩ := List.mem_filter.1 hg
    exact ⟨h2, h1⟩
theorem elig_nn {s : Setup} {l : List Ev} {w k : Int} (hs : setupOk s = true) (hl : (streamP s l w).1.length < 1048576) : 0 ≤ eligP k (streamP s l w).1 := by
  obtain ⟨hr, _⟩ := stream_rise (s := s) (l := l) (w := w) hs
  have key : ∀ (L : List Seg) (n : Int), (∀ g ∈ L, 0 ≤ g.from_ ∧ g.from_ < g.to_ ∧ g.to_ ≤ 32054400) → 0 ≤ n → n + 32054400 * L.length ≤ 4611686018427387904 → 0 ≤ L.foldl (fun n g => wr (n + wr (g.to_ - g.from_))) n := fun L => by
    induction L with
    | nil => exact fun n _ h _ => h
    | cons g L ih =>
      intro n hg h0 hb
      have := hg g (by simp)
      rw [List.length_cons] at hb
      rw [List.foldl_cons, wr_fit (n := g.to_ - g.from_) (by unfold Fit; omega), wr_fit (n := n + (g.to_ - g.from_)) (by unfold Fit; omega)]
      exact ih _ (fun x hx => hg x (by simp [hx])) (by omega) (by omega)
  unfold eligP selG
  have hlen := List.length_filter_le (partOf k) (streamP s l w).1
  exact key _ 0 (fun g hg => hr.each g (List.mem_filter.1 hg).1) (by decide) (by omega)
/-- Without faults. -/
theorem perf_goals {s : Setup} {l : List Ev} {w k : Int} (hs : setupOk s = true) (hn : (l.map (·.id)).Nodup) (hf : ∀ e ∈ l, e.kind ≠ 7) (hl : (streamP s l w).1.length < 1048576) :
    ((perfP s l w k).err ≠ 0 → (perfP s l w k).earned = (0, 0) ∧ (perfP s l w k).perf = (0, 0)) ∧
    ((perfP s l w k).err = 0 → sumR (goalsL s l k (streamP s l w).1) = ((perfP s l w k).earned, 0) ∧ Lo (perfP s l w k).perf ∧
      (((perfP s l w k).eligible = 0 ∧ (perfP s l w k).perf = (0, 1)) ∨
        ((0 < (perfP s l w k).eligible ∧ (perfP s l w k).eligible ≤ 2147483647) ∧ mulR (perfP s l w k).perf ((perfP s l w k).eligible, 1) = ((perfP s l w k).earned, 0)))) := by
  have hfl : faultsP (ownP s w l) k = 0 := by
    rw [faults_len, List.length_eq_zero_iff]
    refine List.filter_eq_nil_iff.2 fun x hx => ?_
    have := hf x (List.mem_filter.1 hx).1
    simp [isFault, this]
  rw [perfP, if_pos hs, week_fin, own_stream hn, hfl, ← goals_same hs hn]
  have hel := elig_nn (k := k) hs hl
  have hef := elig_fit (k := k) (segs := (streamP s l w).1)
  have hG : ∀ p ∈ goalsL s l k (streamP s l w).1, 0 ≤ p.1 := fun p hp => by
    unfold goalsL goalsE at hp
    obtain ⟨g, _, hp⟩ := List.mem_flatMap.1 hp
    obtain ⟨e, _, rfl⟩ := List.mem_map.1 hp
    exact goal_nn hs e
  have hS := sum_nn hG
  obtain ⟨el, hel0⟩ : ∃ el, el = eligP k (streamP s l w).1 := ⟨_, rfl⟩
  obtain ⟨S, hS0⟩ : ∃ S, S = sumR (goalsL s l k (streamP s l w).1) := ⟨_, rfl⟩
  obtain ⟨z, hz0⟩ : ∃ z, z = firstP s (ownP s w l) k (streamP s l w).1 := ⟨_, rfl⟩
  rw [← hel0] at hel hef ⊢
  rw [← hS0] at hS ⊢
  rw [← hz0]
  refine ⟨fin_bad, fun h => ?_⟩
  obtain ⟨D, d⟩ := fin_ok (setup_fault hs) (by decide) hef h
  have hD : D = S.1 := by
    have := d.eq
    simp only [Int.natCast_zero, Int.mul_zero, Int.zero_mul, Int.sub_zero] at this
    obtain ⟨e1, e2⟩ := red_uniq d.lo.pos d.slo.pos d.lo.cop d.slo.cop this
    exact Prod.ext e1 e2
  have hc : clampR D = S.1 := by
    unfold clampR
    rw [hD, if_neg (by omega)]
  have he : (leftP s.fault z S el 0).earned = S.1 := by rw [d.earned, hc]
  refine ⟨by rw [he]; exact Prod.ext rfl d.s0, (left_lo (setup_fault hs) (by decide) hef h).2, ?_⟩
  rw [fin_elig, he]
  by_cases hn0 : 0 < el
  · right
    obtain ⟨n1, n2⟩ := d.some hn0
    refine ⟨⟨hn0, n1⟩, ?_⟩
    rw [hc] at n2
    have ln : Lo (el, 1) := ⟨by simp, by simp, by simp only; omega, by simp⟩
    obtain ⟨a1, a2, a3⟩ := div_lo d.slo ln hn0
    rw [a1] at n2
    obtain ⟨k1, k2⟩ := make_ok a2 a3 (by rw [n2])
    rw [n2] at k1 k2
    simp only at k1 k2
    obtain ⟨m1, m2, m3⟩ := mul_lo k1 ln
    rw [m1, ← make_lo d.slo]
    have := d.slo.num; have := d.slo.den; have := d.slo.pos
    refine make_same m2 m3 (by omega) (by omega) ?_
    simp only
    grind
  · left
    exact ⟨by omega, d.none hn0⟩
end Go.Proofs.YtpdghiplnlhnfaaGreat.Ax
