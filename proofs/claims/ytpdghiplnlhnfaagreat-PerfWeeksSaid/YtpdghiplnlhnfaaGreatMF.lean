/-
  Joined: Num, Sum, Idx. Nothing is proved here of a statement.
-/
import Derived.Test.YtpdghiplnlhnfaaGreatMX
import Derived.Test.YtpdghiplnlhnfaaGreatMW
import Derived.IntWalk
namespace Go.Proofs.YtpdghiplnlhnfaaGreat.Ax
set_option linter.unusedSimpArgs false
set_option linter.unusedVariables false
open Go Go.Proofs
set_option maxRecDepth 100000
set_option linter.unusedSimpArgs false
set_option linter.unusedVariables false
attribute [go_sem] ty3 ty4 ty24 ty34 pe24
abbrev i64 (n : Int) : AV := .v (.int .i64 n)
abbrev bl (b : Bool) : AV := .v (.bool b)
abbrev ratio (n d : Int) : AV := .ag [i64 n, i64 d]
abbrev wr (n : Int) : Int := IntKind.wrap .i64 n
theorem c52 : Pure Tryz.prog 72 [] (ratio 0 1) := fun h => by
  refine acalls_wp Tryz.f72 [.cell 0 24] 2 rfl rfl rfl rfl rfl rfl (by decide) (⟨_, _, ⟨rfl, rfl⟩, .refl⟩) fun B => ?_
  simp only [go_sem]
  (first | refine endA_pure0 ?_ | refine endA_pure ?_ (by rfl)) <;> (simp only [go_sem] <;> try rfl)
def side (n : Int) : Int := if n = -9223372036854775808 then 4611686018427387904 else if n < 0 then wr (0 - n) else n
theorem c84 (n : Int) : Pure Tryz.prog 120 [i64 n] (i64 (side n)) := fun h => by
  refine acalls_wp Tryz.f120 [.tmp 2] 12 rfl rfl rfl rfl rfl rfl (by decide) (⟨_, _, ⟨rfl, rfl⟩, .refl⟩) fun B => ?_
  simp only [go_sem]
  refine ways (fun e => ?_) (fun e => ?_)
  · simp only [beq_iff_eq] at e
    (first | refine endA_pure0 ?_ | refine endA_pure ?_ (by rfl)) <;> (simp only [go_sem, side, e] <;> try rfl)
  · simp only [beq_eq_false_iff_ne, ne_eq] at e
    simp only [go_sem]
    refine ways (fun e2 => ?_) (fun e2 => ?_)
    · simp only [decide_eq_true_eq] at e2
      simp only [go_sem]
      (first | refine endA_pure0 ?_ | refine endA_pure ?_ (by rfl)) <;> (simp only [go_sem, side, e, e2] <;> try rfl)
    · simp only [decide_eq_false_iff_not] at e2
      simp only [go_sem]
      (first | refine endA_pure0 ?_ | refine endA_pure ?_ (by rfl)) <;> (simp only [go_sem, side, e, e2] <;> try rfl)
def Fit (n : Int) : Prop := -9223372036854775808 ≤ n ∧ n ≤ 9223372036854775807
theorem wr_fit {n : Int} (h : Fit n) : wr n = n := Go.IntWalk.i64_in n h
theorem side_nn {n : Int} (h : Fit n) : 0 ≤ side n := by
  unfold side
  split
  · omega
  · split
    · rw [wr_fit (by unfold Fit at *; omega)]; omega
    · omega
def gcdI (a b : Int) : Int := (Nat.gcd (side a).toNat (side b).toNat : Int)
theorem c53 (a b : Int) (ha : Fit a) (hb : Fit b) : Pure Tryz.prog 74 [i64 a, i64 b] (i64 (gcdI a b)) := fun h => by
  refine acalls_wp Tryz.f74 [.tmp 4] 16 rfl rfl rfl rfl rfl rfl (by decide) (⟨_, _, ⟨rfl, rfl⟩, .refl⟩) fun B => ?_
  simp only [go_sem]
  refine call_by (c84 a h) ?_
  rintro _ _ ⟨rfl, rfl⟩
  simp only [go_sem]
  refine call_by (c84 b _) ?_
  rintro _ _ ⟨rfl, rfl⟩
  simp only [go_sem]
  rename_i h
  refine wp_loop_a (by decide) (fun n T h' => h' = h ∧ ∃ x y : Nat, T 0 = i64 x ∧ T 1 = i64 y ∧ Nat.gcd x y = Nat.gcd (side a).toNat (side b).toNat ∧ y = n) _ ⟨rfl, (side a).toNat, (side b).toNat, ?_, ?_, rfl, rfl⟩ ?_
  · simp only [go_sem, Int.toNat_of_nonneg (side_nn ha)]
  · simp only [go_sem, Int.toNat_of_nonneg (side_nn hb)]
  rintro n T h ⟨rfl, x, y, h0, h1, hg, rfl⟩
  simp only [go_sem, h0, h1]
  refine ways (fun e => ?_) (fun e => ?_)
  · simp only [go_sem]
    have hyp : 0 < y := by simpa using e
    have hy : ¬ (y : Int) = 0 := by omega
    refine wp_draw rfl [] 0 [(0, 0, []), (1, 0, []), (2, 0, []), (3, 0, []), (4, 0, []), (5, 0, [])] rfl (by decide) (by decide) ?_
    simp only [go_sem, h0, h1, hy]
    refine ⟨x % y, Nat.mod_lt _ hyp, y, x % y, rfl, by rw [Int.ofNat_tmod], ?_, rfl⟩
    rw [← hg, Nat.gcd_comm y, ← Nat.gcd_rec, Nat.gcd_comm]
  · simp only [go_sem]
    have hy : y = 0 := by simpa using e
    subst hy
    rw [Nat.gcd_zero_right] at hg
    simp only [go_sem, h0]
    (first | refine endA_pure0 ?_ | refine endA_pure ?_ (by rfl)) <;> (simp only [go_sem, gcdI, h0, hg] <;> try rfl)
theorem gcdI_pos {a b : Int} (hb : Fit b) (h : 0 < b) : 0 < gcdI a b := by
  have : side b = b := by
    unfold side
    split
    · omega
    · split <;> omega
  unfold gcdI
  rw [this]
  have := Nat.gcd_pos_of_pos_right (side a).toNat (show 0 < b.toNat by omega)
  omega
abbrev Rat2 := Int × Int
abbrev rat (p : Rat2) : AV := ratio p.1 p.2
def maxPart : Int := 2147483647
def make (n d : Int) : Rat2 × Int :=
  if d ≤ 0 then ((0, 0), 20) else if n = 0 then ((0, 1), 0) else
    if wr (n.tdiv (gcdI n d)) > 2147483647 ∨ wr (n.tdiv (gcdI n d)) < -2147483647 ∨ wr (d.tdiv (gcdI n d)) > 2147483647 then ((0, 0), 10) else ((wr (n.tdiv (gcdI n d)), wr (d.tdiv (gcdI n d))), 0)
abbrev ratE (p : Rat2 × Int) : AV := .tup [rat p.1, i64 p.2]
theorem c18 (n d : Int) (hn : Fit n) (hd : Fit d) : Pure Tryz.prog 35 [i64 n, i64 d] (ratE (make n d)) := fun h => by
  refine acalls_wp Tryz.f35 [.cell 4 24, .tmp 5] 36 rfl rfl rfl rfl rfl rfl (by decide) (⟨_, _, ⟨rfl, rfl⟩, .refl⟩) fun B => ?_
  simp only [go_sem]
  refine ways (fun e => ?_) (fun e => ?_)
  · simp only [decide_eq_true_eq] at e
    simp only [go_sem]
    (first | refine endA_pure0 ?_ | refine endA_pure ?_ (by rfl)) <;> (simp only [go_sem, make, e] <;> try rfl)
  simp only [decide_eq_false_iff_not] at e
  simp only [go_sem]
  refine ways (fun e2 => ?_) (fun e2 => ?_)
  · simp only [beq_iff_eq] at e2
    simp only [go_sem]
    refine call_by (c52 _) ?_
    rintro _ _ ⟨rfl, rfl⟩
    simp only [go_sem]
    (first | refine endA_pure0 ?_ | refine endA_pure ?_ (by rfl)) <;> (simp only [go_sem, make, e, e2] <;> try rfl)
  simp only [beq_eq_false_iff_ne, ne_eq] at e2
  simp only [go_sem]
  refine call_by (c53 n d hn hd _) ?_
  rintro _ _ ⟨rfl, rfl⟩
  simp only [go_sem]
  refine wp_draw rfl [] 0 [(0, 0, []), (1, 0, []), (2, 0, []), (3, 0, []), (4, 0, []), (5, 0, []), (6, 0, []), (7, 0, [])] rfl (by decide) (by decide) ?_
  have hg : ¬ gcdI n d = 0 := by have := gcdI_pos (a := n) hd (by omega); omega
  simp only [go_sem, hg]
  refine ways (fun e3 => ?_) (fun e3 => ?_)
  · have e3 := beq_ft e3
    simp only [go_sem, e3]
    refine ways (fun e4 => ?_) (fun e4 => ?_)
    · have e4 := beq_ft e4
      simp only [go_sem, e4]
      refine ways (fun e5 => ?_) (fun e5 => ?_)
      · simp only [go_sem]
        simp only [decide_eq_true_eq, decide_eq_false_iff_not] at e3 e4 e5
        (first | refine endA_pure0 ?_ | refine endA_pure ?_ (by rfl)) <;> (simp only [go_sem, make, e, e2, e3, e4, e5, or_true] <;> try rfl)
      · simp only [go_sem]
        simp only [decide_eq_true_eq, decide_eq_false_iff_not] at e3 e4 e5
        (first | refine endA_pure0 ?_ | refine endA_pure ?_ (by rfl)) <;> (simp only [go_sem, make, e, e2, e3, e4, e5, or_self] <;> try rfl)
    · have e4 := beq_ff e4
      simp only [go_sem, e4]
      simp only [decide_eq_true_eq, decide_eq_false_iff_not] at e3 e4
      (first | refine endA_pure0 ?_ | refine endA_pure ?_ (by rfl)) <;> (simp only [go_sem, make, e, e2, e3, e4, true_or, or_true] <;> try rfl)
  · have e3 := beq_ff e3
    simp only [go_sem, e3]
    simp only [decide_eq_true_eq] at e3
    (first | refine endA_pure0 ?_ | refine endA_pure ?_ (by rfl)) <;> (simp only [go_sem, make, e, e2, e3, true_or] <;> try rfl)
/-- May a ratio be? -/
def rok (p : Rat2) : Bool := (make p.1 p.2).2 == 0 && ((make p.1 p.2).1.1 == p.1 && (make p.1 p.2).1.2 == p.2)
theorem c27 (p : Rat2) (hn : Fit p.1) (hd : Fit p.2) : Pure Tryz.prog 45 [rat p] (bl (rok p)) := fun h => by
  refine acalls_wp Tryz.f45 [.tmp 2] 20 rfl rfl rfl rfl rfl rfl (by decide) (⟨_, _, ⟨rfl, rfl⟩, .refl⟩) fun B => ?_
  simp only [go_sem]
  refine call_by (c18 p.1 p.2 hn hd _) ?_
  rintro _ _ ⟨rfl, rfl⟩
  simp only [go_sem]
  refine ways (fun e => ?_) (fun e => ?_)
  · have e := beq_tt e
    simp only [go_sem, e]
    (first | refine endA_pure0 ?_ | refine endA_pure ?_ (by rfl)) <;> (simp only [go_sem, rok, e] <;> try rfl)
  · have e := beq_tf e
    simp only [go_sem, e]
    (first | refine endA_pure0 ?_ | refine endA_pure ?_ (by rfl)) <;> (simp only [go_sem, rok, e] <;> try rfl)
theorem fit_wr (n : Int) : Fit (wr n) := by
  unfold Fit wr
  rw [IntKind.wrap_i64]
  omega
def FitR (p : Rat2) : Prop := Fit p.1 ∧ Fit p.2
/-- What a function of two captured ratios comes to. -/
def Two (f : FuncId) (v : Rat2 → Rat2 → Int × Int) : Prop := ∀ (h : List Ob) (i j : Nat) (a b : Rat2), h[i]? = some (.box 24 [i64 a.1, i64 a.2]) → h[j]? = some (.box 24 [i64 b.1, i64 b.2]) →
  ACalls Tryz.prog f [.ptr i 0, .ptr j 0] h fun r h' => r = .tup [i64 (v a b).1, i64 (v a b).2] ∧ h' = h
theorem c55 : Two 76 fun a b => (wr (wr (a.1 * b.2) - wr (b.1 * a.2)), wr (a.2 * b.2)) := fun h i j a b hi hj => by
  refine acalls_wp Tryz.f76 [.tmp 2, .tmp 3] 20 rfl rfl rfl rfl rfl rfl (by decide) (⟨_, _, ⟨rfl, rfl⟩, .refl⟩) fun B => ?_
  simp only [go_sem]
  refine wp_draw rfl [] 0 [(0, 0, []), (2, 0, []), (5, 0, []), (7, 0, []), (11, 0, []), (13, 0, []), (1, 0, []), (3, 0, []), (4, 0, []), (6, 0, []), (8, 0, []), (9, 0, []), (10, 0, []), (16, 0, []), (12, 0, []), (14, 0, []), (15, 0, []), (17, 0, [])] rfl (by decide) (by decide) ?_
  simp only [go_sem, hi, hj]
  (first | refine endA_pure0 ?_ | refine endA_pure ?_ (by rfl)) <;> (simp only [go_sem] <;> try rfl)
theorem c92 : Two 119 fun a b => (wr (wr (a.1 * b.2) + wr (b.1 * a.2)), wr (a.2 * b.2)) := fun h i j a b hi hj => by
  refine acalls_wp Tryz.f119 [.tmp 2, .tmp 3] 20 rfl rfl rfl rfl rfl rfl (by decide) (⟨_, _, ⟨rfl, rfl⟩, .refl⟩) fun B => ?_
  simp only [go_sem]
  refine wp_draw rfl [] 0 [(0, 0, []), (2, 0, []), (5, 0, []), (7, 0, []), (11, 0, []), (13, 0, []), (1, 0, []), (3, 0, []), (4, 0, []), (6, 0, []), (8, 0, []), (9, 0, []), (10, 0, []), (16, 0, []), (12, 0, []), (14, 0, []), (15, 0, []), (17, 0, [])] rfl (by decide) (by decide) ?_
  simp only [go_sem, hi, hj]
  (first | refine endA_pure0 ?_ | refine endA_pure ?_ (by rfl)) <;> (simp only [go_sem] <;> try rfl)
theorem c64 : Two 118 fun a b => (wr (a.1 * b.1), wr (a.2 * b.2)) := fun h i j a b hi hj => by
  refine acalls_wp Tryz.f118 [.tmp 2, .tmp 3] 14 rfl rfl rfl rfl rfl rfl (by decide) (⟨_, _, ⟨rfl, rfl⟩, .refl⟩) fun B => ?_
  simp only [go_sem]
  refine wp_draw rfl [] 0 [(0, 0, []), (2, 0, []), (5, 0, []), (7, 0, []), (1, 0, []), (3, 0, []), (4, 0, []), (10, 0, []), (6, 0, []), (8, 0, []), (9, 0, []), (11, 0, [])] rfl (by decide) (by decide) ?_
  simp only [go_sem, hi, hj]
  (first | refine endA_pure0 ?_ | refine endA_pure ?_ (by rfl)) <;> (simp only [go_sem] <;> try rfl)
theorem c75 : Two 77 fun a b => (wr (a.1 * b.2), wr (a.2 * b.1)) := fun h i j a b hi hj => by
  refine acalls_wp Tryz.f77 [.tmp 2, .tmp 3] 14 rfl rfl rfl rfl rfl rfl (by decide) (⟨_, _, ⟨rfl, rfl⟩, .refl⟩) fun B => ?_
  simp only [go_sem]
  refine wp_draw rfl [] 0 [(0, 0, []), (2, 0, []), (5, 0, []), (7, 0, []), (1, 0, []), (3, 0, []), (4, 0, []), (10, 0, []), (6, 0, []), (8, 0, []), (9, 0, []), (11, 0, [])] rfl (by decide) (by decide) ?_
  simp only [go_sem, hi, hj]
  (first | refine endA_pure0 ?_ | refine endA_pure ?_ (by rfl)) <;> (simp only [go_sem] <;> try rfl)
def twoR (v : Rat2 → Rat2 → Int × Int) (a b : Rat2) : Rat2 × Int := if (rok a && rok b) = true then make (v a b).1 (v a b).2 else ((0, 0), 20)
theorem c54 (h : List Ob) (a b : Rat2) (ha : FitR a) (hb : FitR b) (f : FuncId) (cs : List AV) (n d : Int) (hn : Fit n) (hd : Fit d) (hf : ∀ L, ACalls Tryz.prog f cs (h ++ L) fun r h' => r = .tup [i64 n, i64 d] ∧ h' = h ++ L) :
    ACalls Tryz.prog 75 [rat a, rat b, .fn (.func f) [] cs] h fun r h' => r = ratE (if (rok a && rok b) = true then make n d else ((0, 0), 20)) ∧ h' = h := by
  refine acalls_wp Tryz.f75 [.cell 6 24, .tmp 7] 24 rfl rfl rfl rfl rfl rfl (by decide) (⟨_, _, ⟨rfl, rfl⟩, .refl⟩) fun B => ?_
  simp only [go_sem]
  refine call_by (c27 a ha.1 ha.2 _) ?_
  rintro _ _ ⟨rfl, rfl⟩
  simp only [go_sem]
  refine ways (fun e => ?_) (fun e => ?_)
  · have e := beq_ft e
    simp only [Bool.not_eq_false'] at e
    simp only [go_sem, e]
    refine call_by (c27 b hb.1 hb.2 _) ?_
    rintro _ _ ⟨rfl, rfl⟩
    simp only [go_sem, e]
    refine ways (fun e2 => ?_) (fun e2 => ?_)
    · simp only [Bool.not_eq_true'] at e2
      simp only [go_sem, e, e2]
      (first | refine endA_pure0 ?_ | refine endA_pure ?_ (by rfl)) <;> (simp only [go_sem, e, e2] <;> try rfl)
    · simp only [Bool.not_eq_false'] at e2
      simp only [go_sem, e, e2]
      refine call_by (hf _) ?_
      rintro _ _ ⟨rfl, rfl⟩
      simp only [go_sem]
      refine call_by (c18 n d hn hd _) ?_
      rintro _ _ ⟨rfl, rfl⟩
      simp only [go_sem]
      (first | refine endA_pure0 ?_ | refine endA_pure ?_ (by rfl)) <;> (simp only [go_sem, e, e2] <;> try rfl)
  · have e := beq_ff e
    simp only [Bool.not_eq_true'] at e
    simp only [go_sem, e]
    (first | refine endA_pure0 ?_ | refine endA_pure ?_ (by rfl)) <;> (simp only [go_sem, e] <;> try rfl)
theorem twoC {f : FuncId} {v : Rat2 → Rat2 → Int × Int} (hv : Two f v) (hfit : ∀ a b, Fit (v a b).1 ∧ Fit (v a b).2) {h : List Ob} (a b : Rat2) (ha : FitR a) (hb : FitR b) (i j : Nat) (hi : h[i]? = some (.box 24 [i64 a.1, i64 a.2])) (hj : h[j]? = some (.box 24 [i64 b.1, i64 b.2])) :
    ACalls Tryz.prog 75 [rat a, rat b, .fn (.func f) [] [.ptr i 0, .ptr j 0]] h fun r h' => r = ratE (twoR v a b) ∧ h' = h :=
  c54 h a b ha hb f _ _ _ (hfit a b).1 (hfit a b).2 fun L => hv _ i j a b (get_app_old hi) (get_app_old hj)
abbrev subV (a b : Rat2) : Int × Int := (wr (wr (a.1 * b.2) - wr (b.1 * a.2)), wr (a.2 * b.2))
abbrev addV (a b : Rat2) : Int × Int := (wr (wr (a.1 * b.2) + wr (b.1 * a.2)), wr (a.2 * b.2))
abbrev mulV (a b : Rat2) : Int × Int := (wr (a.1 * b.1), wr (a.2 * b.2))
abbrev divV (a b : Rat2) : Int × Int := (wr (a.1 * b.2), wr (a.2 * b.1))
theorem c19 (a b : Rat2) (ha : FitR a) (hb : FitR b) : Pure Tryz.prog 37 [rat a, rat b] (ratE (twoR subV a b)) := fun h => by
  refine acalls_wp Tryz.f37 [.cell 4 24, .tmp 5] 12 rfl rfl rfl rfl rfl rfl (by decide) (⟨_, _, ⟨rfl, rfl⟩, .refl⟩) fun B => ?_
  simp only [go_sem]
  refine call_by (twoC (v := subV) c55 (fun _ _ => ⟨fit_wr _, fit_wr _⟩) a b ha hb _ _ (by simp only [go_sem]) (by simp only [go_sem])) ?_
  rintro _ _ ⟨rfl, rfl⟩
  simp only [go_sem]
  (first | refine endA_pure0 ?_ | refine endA_pure ?_ (by rfl)) <;> (simp only [go_sem] <;> try rfl)
theorem c63 (a b : Rat2) (ha : FitR a) (hb : FitR b) : Pure Tryz.prog 73 [rat a, rat b] (ratE (twoR addV a b)) := fun h => by
  refine acalls_wp Tryz.f73 [.cell 4 24, .tmp 5] 12 rfl rfl rfl rfl rfl rfl (by decide) (⟨_, _, ⟨rfl, rfl⟩, .refl⟩) fun B => ?_
  simp only [go_sem]
  refine call_by (twoC (v := addV) c92 (fun _ _ => ⟨fit_wr _, fit_wr _⟩) a b ha hb _ _ (by simp only [go_sem]) (by simp only [go_sem])) ?_
  rintro _ _ ⟨rfl, rfl⟩
  simp only [go_sem]
  (first | refine endA_pure0 ?_ | refine endA_pure ?_ (by rfl)) <;> (simp only [go_sem] <;> try rfl)
theorem c24 (a b : Rat2) (ha : FitR a) (hb : FitR b) : Pure Tryz.prog 71 [rat a, rat b] (ratE (twoR mulV a b)) := fun h => by
  refine acalls_wp Tryz.f71 [.cell 4 24, .tmp 5] 12 rfl rfl rfl rfl rfl rfl (by decide) (⟨_, _, ⟨rfl, rfl⟩, .refl⟩) fun B => ?_
  simp only [go_sem]
  refine call_by (twoC (v := mulV) c64 (fun _ _ => ⟨fit_wr _, fit_wr _⟩) a b ha hb _ _ (by simp only [go_sem]) (by simp only [go_sem])) ?_
  rintro _ _ ⟨rfl, rfl⟩
  simp only [go_sem]
  (first | refine endA_pure0 ?_ | refine endA_pure ?_ (by rfl)) <;> (simp only [go_sem] <;> try rfl)
theorem c46 (a b : Rat2) (ha : FitR a) (hb : FitR b) : Pure Tryz.prog 38 [rat a, rat b] (ratE (twoR divV a b)) := fun h => by
  refine acalls_wp Tryz.f38 [.cell 4 24, .tmp 5] 12 rfl rfl rfl rfl rfl rfl (by decide) (⟨_, _, ⟨rfl, rfl⟩, .refl⟩) fun B => ?_
  simp only [go_sem]
  refine call_by (twoC (v := divV) c75 (fun _ _ => ⟨fit_wr _, fit_wr _⟩) a b ha hb _ _ (by simp only [go_sem]) (by simp only [go_sem])) ?_
  rintro _ _ ⟨rfl, rfl⟩
  simp only [go_sem]
  (first | refine endA_pure0 ?_ | refine endA_pure ?_ (by rfl)) <;> (simp only [go_sem] <;> try rfl)
def lessR (a b : Rat2) : Bool := rok a && rok b && decide (wr (a.1 * b.2) < wr (b.1 * a.2))
theorem c20 (a b : Rat2) (ha : FitR a) (hb : FitR b) : Pure Tryz.prog 46 [rat a, rat b] (bl (lessR a b)) := fun h => by
  refine acalls_wp Tryz.f46 [.tmp 4] 24 rfl rfl rfl rfl rfl rfl (by decide) (⟨_, _, ⟨rfl, rfl⟩, .refl⟩) fun B => ?_
  simp only [go_sem]
  refine call_by (c27 a ha.1 ha.2 _) ?_
  rintro _ _ ⟨rfl, rfl⟩
  simp only [go_sem]
  refine ways (fun e => ?_) (fun e => ?_)
  · have e := beq_tt e
    simp only [go_sem, e]
    refine call_by (c27 b hb.1 hb.2 _) ?_
    rintro _ _ ⟨rfl, rfl⟩
    simp only [go_sem, e]
    refine ways (fun e2 => ?_) (fun e2 => ?_)
    · have e2 := beq_tt e2
      simp only [go_sem, e, e2]
      (first | refine endA_pure0 ?_ | refine endA_pure ?_ (by rfl)) <;> (simp only [go_sem, lessR, e, e2] <;> try rfl)
    · have e2 := beq_tf e2
      simp only [go_sem, e, e2]
      (first | refine endA_pure0 ?_ | refine endA_pure ?_ (by rfl)) <;> (simp only [go_sem, lessR, e, e2] <;> try rfl)
  · have e := beq_tf e
    simp only [go_sem, e]
    (first | refine endA_pure0 ?_ | refine endA_pure ?_ (by rfl)) <;> (simp only [go_sem, lessR, e] <;> try rfl)
end Go.Proofs.YtpdghiplnlhnfaaGreat.Ax

namespace Go.Proofs.YtpdghiplnlhnfaaGreat.Ax
set_option linter.unusedSimpArgs false
set_option linter.unusedVariables false
open Go Go.Proofs
set_option maxRecDepth 100000
set_option linter.unusedSimpArgs false
set_option linter.unusedVariables false
attribute [go_sem] ty26
theorem wr_nat {k : Nat} (h : k < 4611686018427387904) : wr (k : Int) = (k : Int) := wr_fit (by unfold Fit; omega)
theorem wr_succ {k : Nat} (h : k < 4611686018427387904) : wr ((k : Int) + 1) = ((k + 1 : Nat) : Int) := by rw [wr_fit (by unfold Fit; omega)]; rfl
def rrow (p : Rat2) : List AV := [i64 p.1, i64 p.2]
theorem fit_make (n d : Int) : FitR (make n d).1 := by
  unfold make FitR
  split
  · exact ⟨⟨by decide, by decide⟩, ⟨by decide, by decide⟩⟩
  · split
    · exact ⟨⟨by decide, by decide⟩, ⟨by decide, by decide⟩⟩
    · split
      · exact ⟨⟨by decide, by decide⟩, ⟨by decide, by decide⟩⟩
      · exact ⟨fit_wr _, fit_wr _⟩
theorem fit_two (v : Rat2 → Rat2 → Int × Int) (a b : Rat2) : FitR (twoR v a b).1 := by
  unfold twoR
  split
  · exact fit_make _ _
  · exact ⟨⟨by decide, by decide⟩, ⟨by decide, by decide⟩⟩
def sumG : Rat2 → List Rat2 → Rat2 × Int
  | out, [] => (out, 0)
  | out, r :: l => if (twoR addV out r).2 ≠ 0 then ((0, 0), (twoR addV out r).2) else sumG (twoR addV out r).1 l
def sumR (l : List Rat2) : Rat2 × Int := if l.all rok then sumG (0, 1) l else ((0, 0), 20)
theorem c23 (h : List Ob) (x : AV) (l : List Rat2) (hl : ∀ p ∈ l, FitR p) (hn : l.length < 1099511627776) (hx : SlOf h x 2 (l.map rrow)) :
    ACalls Tryz.prog 34 [x] h fun r h' => r = ratE (sumR l) ∧ h' = h := by
  refine acalls_wp Tryz.f34 [.cell 2 24, .tmp 3] 38 rfl rfl rfl rfl rfl rfl (by decide) (⟨_, _, ⟨rfl, rfl⟩, .refl⟩) fun B => ?_
  simp only [go_sem]
  refine call_by (c52 _) ?_
  rintro _ h1 ⟨rfl, e1⟩
  subst e1
  have hr : ∀ L, rowsOf (h ++ L) x = some (l.map rrow) := fun L => (hx.app L).rows
  simp only [go_sem, hr, List.length_map]
  refine wp_loop_a (by decide) (fun n T h' => ∃ (k : Nat) (L : List Ob), h' = h ++ (Ob.box 24 [i64 0, i64 1] :: L) ∧ T 0 = x ∧ T 2 = .ptr h.length 0 ∧ T 9 = x ∧ T 10 = i64 l.length ∧ T 11 = i64 k ∧ k ≤ l.length ∧ (l.take k).all rok = true ∧ n = l.length - k) l.length
    ⟨0, [], rfl, by simp only [go_sem], by simp only [go_sem], by simp only [go_sem], by simp only [go_sem], by (simp only [go_sem] <;> rfl), by omega, rfl, rfl⟩ ?_
  rintro n T h' ⟨k, L, e, t0, t2, t9, t10, t11, hk, hall, rfl⟩
  have hs : SlOf h' x 2 (l.map rrow) := by subst e; exact hx.app _
  simp only [go_sem, t9, t10, t11]
  refine ways (fun e1 => ?_) (fun e1 => ?_)
  · have hlt : k < l.length := by simpa using e1
    have he := hs.at (i := k) (by simpa using hlt)
    have hp : (l.map rrow)[k]? = some (rrow l[k]) := by simp [hlt]
    have hkl : (k : Int) < l.length := by omega
    simp only [go_sem, he, hs.rows, hp, hkl, t9, t10, t11, Int.toNat_natCast, Int.natCast_nonneg, List.length_map, rrow]
    refine call_by (c27 l[k] (hl _ (List.getElem_mem hlt)).1 (hl _ (List.getElem_mem hlt)).2 _) ?_
    rintro _ h1 ⟨rfl, e2⟩
    subst e2
    simp only [go_sem]
    refine ways (fun e3 => ?_) (fun e3 => ?_)
    · simp only [Bool.not_eq_true'] at e3
      have hb : ∀ M, (h' ++ M)[h.length]? = some (Ob.box 24 [i64 0, i64 1]) := fun M => by subst e; simp only [go_sem]
      simp only [go_sem, t2, hb]
      subst e
      simp only [go_sem]
      have hn : l.all rok = false := by
        rw [List.all_eq_false]
        exact ⟨l[k], List.getElem_mem hlt, by simp [e3]⟩
      (first | refine endA_pure0 ?_ | refine endA_pure ?_ (by rfl)) <;> (simp only [go_sem, t2, sumR, hn] <;> try rfl)
    · simp only [Bool.not_eq_false'] at e3
      simp only [go_sem, t11, wr_succ (show k < 4611686018427387904 by omega)]
      refine ⟨l.length - (k + 1), by omega, k + 1, L ++ [Ob.box 24 [i64 l[k].1, i64 l[k].2]], by rw [e]; simp, t0, t2, t9, t10, rfl, by omega, ?_, rfl⟩
      rw [List.take_add_one, List.getElem?_eq_getElem hlt, List.all_append, hall]
      simp only [Option.toList_some, List.all_cons, List.all_nil, e3, Bool.and_self]
  · have hlt : k = l.length := by
      have : ¬ (k : Int) < l.length := by simpa using e1
      omega
    have hall2 : l.all rok = true := by rw [hlt, List.take_length] at hall; exact hall
    simp only [go_sem, t0, hs.rows, List.length_map]
    refine wp_loop_a (by decide) (fun n T h' => ∃ (k : Nat) (out : Rat2) (L : List Ob), h' = h ++ (Ob.box 24 [i64 out.1, i64 out.2] :: L) ∧ FitR out ∧ T 2 = .ptr h.length 0 ∧ T 20 = x ∧ T 21 = i64 l.length ∧ T 22 = i64 k ∧ k ≤ l.length ∧ sumG (0, 1) l = sumG out (l.drop k) ∧ n = l.length - k) l.length
      ⟨0, (0, 1), L, e, ⟨⟨by decide, by decide⟩, ⟨by decide, by decide⟩⟩, by simp only [go_sem, t2], by simp only [go_sem], by simp only [go_sem], by (simp only [go_sem] <;> rfl), by omega, rfl, rfl⟩ ?_
    clear hs t0 t2 t9 t10 t11 hk hlt e1 e hall
    clear k L h' T
    rintro n T h' ⟨k, out, L, e, hfo, t2, t20, t21, t22, hk, hg, rfl⟩
    have hs : SlOf h' x 2 (l.map rrow) := by subst e; exact hx.app _
    simp only [go_sem, t20, t21, t22]
    refine ways (fun e1 => ?_) (fun e1 => ?_)
    · have hlt : k < l.length := by simpa using e1
      have he := hs.at (i := k) (by simpa using hlt)
      have hp : (l.map rrow)[k]? = some (rrow l[k]) := by simp [hlt]
      have hkl : (k : Int) < l.length := by omega
      have hb : ∀ M, (h' ++ M)[h.length]? = some (Ob.box 24 [i64 out.1, i64 out.2]) := fun M => by subst e; simp only [go_sem]
      simp only [go_sem, he, hs.rows, hp, hkl, t2, hb, t20, t21, t22, Int.toNat_natCast, Int.natCast_nonneg, List.length_map, rrow]
      refine call_by (c63 out l[k] hfo (hl _ (List.getElem_mem hlt)) _) ?_
      rintro _ h1 ⟨rfl, e2⟩
      subst e2
      simp only [go_sem, t2, hb]
      refine ways (fun e3 => ?_) (fun e3 => ?_)
      · simp only [bne_iff_ne, ne_eq] at e3
        subst e
        simp only [go_sem, t2]
        rw [List.drop_eq_getElem_cons hlt] at hg
        (first | refine endA_pure0 ?_ | refine endA_pure ?_ (by rfl)) <;> (simp only [go_sem, t2, sumR, hall2, hg, sumG, e3] <;> try rfl)
      · simp only [bne_eq_false_iff_eq] at e3
        simp only [go_sem, t22, wr_succ (show k < 4611686018427387904 by omega)]
        subst e
        refine ⟨l.length - (k + 1), by omega, k + 1, (twoR addV out l[k]).1, L ++ [Ob.box 24 [i64 l[k].1, i64 l[k].2]], by simp only [go_sem], fit_two _ _ _, t2, t20, t21, rfl, by omega, ?_, rfl⟩
        rw [hg, List.drop_eq_getElem_cons hlt]
        simp [sumG, e3]
    · have hlt : k = l.length := by
        have : ¬ (k : Int) < l.length := by simpa using e1
        omega
      rw [hlt, List.drop_length] at hg
      subst e
      simp only [go_sem, t2]
      (first | refine endA_pure0 ?_ | refine endA_pure ?_ (by rfl)) <;> (simp only [go_sem, t2, sumR, hall2, hg, sumG] <;> try rfl)
end Go.Proofs.YtpdghiplnlhnfaaGreat.Ax

namespace Go.Proofs.YtpdghiplnlhnfaaGreat.Ax
set_option linter.unusedSimpArgs false
set_option linter.unusedVariables false
open Go Go.Proofs
set_option maxRecDepth 100000
set_option linter.unusedSimpArgs false
set_option linter.unusedVariables false
attribute [go_sem] ty22 ty25 ty27 ty28 ty31 ty61 ty81 ty84 ty126
/-- A function of a row's value, that tells whether it is so and leaves memory as it was. -/
def PredOf (h : List Ob) (f : FuncId) (cs : List AV) (arg : List AV → AV) (rows : List (List AV)) (p : List AV → Bool) : Prop :=
  ∀ row ∈ rows, ∀ L, ACalls Tryz.prog f ([arg row] ++ cs) (h ++ L) fun r h' => r = bl (p row) ∧ h' = h ++ L
def ixOf (rows : List (List AV)) (p : List AV → Bool) : Int := match rows.findIdx? p with
  | some i => (i : Int)
  | none => -1
theorem ixOf_hit {rows : List (List AV)} {p : List AV → Bool} {k : Nat} (hk : k < rows.length) (h0 : ∀ j (hj : j < k), p (rows[j]'(by omega)) = false) (h1 : p rows[k] = true) : ixOf rows p = k := by
  unfold ixOf
  rw [List.findIdx?_eq_some_iff_getElem.2 ⟨hk, h1, fun j hj => by simp [h0 j hj]⟩]
theorem ixOf_none {rows : List (List AV)} {p : List AV → Bool} (h0 : ∀ j (hj : j < rows.length), p rows[j] = false) : ixOf rows p = -1 := by
  unfold ixOf
  rw [List.findIdx?_eq_none_iff.2 fun x hx => by obtain ⟨j, hj, e⟩ := List.getElem_of_mem hx; rw [← e]; exact h0 j hj]
theorem ixOf_any (rows : List (List AV)) (p : List AV → Bool) : decide (ixOf rows p ≥ 0) = rows.any p := by
  unfold ixOf
  cases h : rows.findIdx? p with
  | some i =>
    obtain ⟨hi, h1, _⟩ := List.findIdx?_eq_some_iff_getElem.1 h
    have : rows.any p = true := List.any_eq_true.2 ⟨_, List.getElem_mem hi, h1⟩
    rw [this]
    simp
  | none =>
    have := List.findIdx?_eq_none_iff.1 h
    have : rows.any p = false := List.any_eq_false.2 fun x hx => by simp [this x hx]
    rw [this]
    simp
abbrev agA (row : List AV) : AV := .ag row
abbrev oneA (row : List AV) : AV := nth row 0

theorem c114 (h : List Ob) (x : AV) (f : FuncId) (cs : List AV) (rows : List (List AV)) (p : List AV → Bool) (hn : rows.length < 1099511627776) (he : ∀ r ∈ rows, r.length = 1) (hx : SlOf h x 1 rows) (hp : PredOf h f cs oneA rows p) :
    ACalls Tryz.prog 153 [x, .fn (.func f) [] cs] h fun r h' => r = i64 (ixOf rows p) ∧ h' = h := by
  refine acalls_wp Tryz.f153 [.tmp 4] 19 rfl rfl rfl rfl rfl rfl (by decide) (⟨_, _, ⟨rfl, rfl⟩, .refl⟩) fun B => ?_
  simp only [go_sem, hx.rows]
  refine wp_loop_a (by decide) (fun n T h' => h' = h ∧ ∃ k : Nat, T 0 = x ∧ T 1 = .fn (.func f) [] cs ∧ T 7 = i64 rows.length ∧ T 8 = i64 k ∧ k ≤ rows.length ∧ (∀ j (hj : j < rows.length), j < k → p rows[j] = false) ∧ n = rows.length - k) rows.length
    ⟨rfl, 0, by simp only [go_sem], by simp only [go_sem], by simp only [go_sem], by (simp only [go_sem] <;> rfl), by omega, fun _ _ h => by omega, rfl⟩ ?_
  rintro n T h' ⟨rfl, k, t0, t1, t7, t8, hk, h0, rfl⟩
  simp only [go_sem, t7, t8]
  refine ways (fun e1 => ?_) (fun e1 => ?_)
  · have hlt : k < rows.length := by simpa using e1
    have hee := hx.at hlt
    have hrow : rows[k]? = some rows[k] := List.getElem?_eq_getElem hlt
    have hkl : (k : Int) < rows.length := by omega
    have hc := he rows[k] (List.getElem_mem hlt)
    obtain ⟨a0, hcs⟩ : ∃ a0, rows[k] = [a0] := by
      match hr : rows[k], hc with
      | [a0], _ => exact ⟨_, rfl⟩
    have hpk := hp rows[k] (List.getElem_mem hlt) []
    rw [hcs] at hrow hpk
    simp only [List.append_nil, List.cons_append, List.nil_append, oneA, nth] at hpk
    simp only [go_sem, hee, hx.rows, hrow, hkl, t0, t1, t7, t8, Int.toNat_natCast, Int.natCast_nonneg]
    refine call_by hpk ?_
    rintro _ h1 ⟨rfl, e2⟩
    subst e2
    simp only [go_sem]
    refine ways (fun e3 => ?_) (fun e3 => ?_)
    · simp only [go_sem, t8]
      rw [← hcs] at e3
      (first | refine endA_pure0 ?_ | refine endA_pure ?_ (by rfl)) <;> (simp only [go_sem, t8, ixOf_hit hlt (fun j hj => h0 j (by omega) hj) e3] <;> try rfl)
    · simp only [go_sem, t8, wr_succ (show k < 4611686018427387904 by omega)]
      rw [← hcs] at e3
      refine ⟨rows.length - (k + 1), by omega, k + 1, t0, t1, t7, rfl, by omega, fun j hj hjk => ?_, rfl⟩
      rcases Nat.lt_or_ge j k with hj2 | hj2
      · exact h0 j hj hj2
      · have : j = k := by omega
        subst this
        exact e3
  · have hlt : k = rows.length := by
      have : ¬ (k : Int) < rows.length := by simpa using e1
      omega
    simp only [go_sem]
    (first | refine endA_pure0 ?_ | refine endA_pure ?_ (by rfl)) <;> (simp only [go_sem, ixOf_none fun j hj => h0 j hj (by omega)] <;> try rfl)
theorem c98 (h : List Ob) (x : AV) (f : FuncId) (cs : List AV) (rows : List (List AV)) (p : List AV → Bool) (hn : rows.length < 1099511627776) (he : ∀ r ∈ rows, r.length = 1) (hx : SlOf h x 1 rows) (hp : PredOf h f cs oneA rows p) :
    ACalls Tryz.prog 136 [x, .fn (.func f) [] cs] h fun r h' => r = bl (rows.any p) ∧ h' = h := by
  refine acalls_wp Tryz.f136 [.tmp 4] 9 rfl rfl rfl rfl rfl rfl (by decide) (⟨_, _, ⟨rfl, rfl⟩, .refl⟩) fun B => ?_
  simp only [go_sem]
  refine call_by (c114 h x f cs rows p hn he hx hp) ?_
  rintro _ h1 ⟨rfl, e2⟩
  subst e2
  simp only [go_sem, ixOf_any]
  (first | refine endA_pure0 ?_ | refine endA_pure ?_ (by rfl)) <;> (simp only [go_sem, ixOf_any] <;> try rfl)
theorem c115 (h : List Ob) (x : AV) (f : FuncId) (cs : List AV) (rows : List (List AV)) (p : List AV → Bool) (hn : rows.length < 1099511627776) (he : ∀ r ∈ rows, r.length = 2) (hx : SlOf h x 2 rows) (hp : PredOf h f cs agA rows p) :
    ACalls Tryz.prog 154 [x, .fn (.func f) [] cs] h fun r h' => r = i64 (ixOf rows p) ∧ h' = h := by
  refine acalls_wp Tryz.f154 [.tmp 4] 19 rfl rfl rfl rfl rfl rfl (by decide) (⟨_, _, ⟨rfl, rfl⟩, .refl⟩) fun B => ?_
  simp only [go_sem, hx.rows]
  refine wp_loop_a (by decide) (fun n T h' => h' = h ∧ ∃ k : Nat, T 0 = x ∧ T 1 = .fn (.func f) [] cs ∧ T 7 = i64 rows.length ∧ T 8 = i64 k ∧ k ≤ rows.length ∧ (∀ j (hj : j < rows.length), j < k → p rows[j] = false) ∧ n = rows.length - k) rows.length
    ⟨rfl, 0, by simp only [go_sem], by simp only [go_sem], by simp only [go_sem], by (simp only [go_sem] <;> rfl), by omega, fun _ _ h => by omega, rfl⟩ ?_
  rintro n T h' ⟨rfl, k, t0, t1, t7, t8, hk, h0, rfl⟩
  simp only [go_sem, t7, t8]
  refine ways (fun e1 => ?_) (fun e1 => ?_)
  · have hlt : k < rows.length := by simpa using e1
    have hee := hx.at hlt
    have hrow : rows[k]? = some rows[k] := List.getElem?_eq_getElem hlt
    have hkl : (k : Int) < rows.length := by omega
    have hc := he rows[k] (List.getElem_mem hlt)
    obtain ⟨a0, a1, hcs⟩ : ∃ a0 a1, rows[k] = [a0, a1] := by
      match hr : rows[k], hc with
      | [a0, a1], _ => exact ⟨_, _, rfl⟩
    have hpk := hp rows[k] (List.getElem_mem hlt) []
    rw [hcs] at hrow hpk
    simp only [List.append_nil, List.cons_append, List.nil_append, agA, nth] at hpk
    simp only [go_sem, hee, hx.rows, hrow, hkl, t0, t1, t7, t8, Int.toNat_natCast, Int.natCast_nonneg]
    refine call_by hpk ?_
    rintro _ h1 ⟨rfl, e2⟩
    subst e2
    simp only [go_sem]
    refine ways (fun e3 => ?_) (fun e3 => ?_)
    · simp only [go_sem, t8]
      rw [← hcs] at e3
      (first | refine endA_pure0 ?_ | refine endA_pure ?_ (by rfl)) <;> (simp only [go_sem, t8, ixOf_hit hlt (fun j hj => h0 j (by omega) hj) e3] <;> try rfl)
    · simp only [go_sem, t8, wr_succ (show k < 4611686018427387904 by omega)]
      rw [← hcs] at e3
      refine ⟨rows.length - (k + 1), by omega, k + 1, t0, t1, t7, rfl, by omega, fun j hj hjk => ?_, rfl⟩
      rcases Nat.lt_or_ge j k with hj2 | hj2
      · exact h0 j hj hj2
      · have : j = k := by omega
        subst this
        exact e3
  · have hlt : k = rows.length := by
      have : ¬ (k : Int) < rows.length := by simpa using e1
      omega
    simp only [go_sem]
    (first | refine endA_pure0 ?_ | refine endA_pure ?_ (by rfl)) <;> (simp only [go_sem, ixOf_none fun j hj => h0 j hj (by omega)] <;> try rfl)
theorem c101 (h : List Ob) (x : AV) (f : FuncId) (cs : List AV) (rows : List (List AV)) (p : List AV → Bool) (hn : rows.length < 1099511627776) (he : ∀ r ∈ rows, r.length = 2) (hx : SlOf h x 2 rows) (hp : PredOf h f cs agA rows p) :
    ACalls Tryz.prog 139 [x, .fn (.func f) [] cs] h fun r h' => r = bl (rows.any p) ∧ h' = h := by
  refine acalls_wp Tryz.f139 [.tmp 4] 9 rfl rfl rfl rfl rfl rfl (by decide) (⟨_, _, ⟨rfl, rfl⟩, .refl⟩) fun B => ?_
  simp only [go_sem]
  refine call_by (c115 h x f cs rows p hn he hx hp) ?_
  rintro _ h1 ⟨rfl, e2⟩
  subst e2
  simp only [go_sem, ixOf_any]
  (first | refine endA_pure0 ?_ | refine endA_pure ?_ (by rfl)) <;> (simp only [go_sem, ixOf_any] <;> try rfl)
theorem c100 (h : List Ob) (x : AV) (f : FuncId) (cs : List AV) (rows : List (List AV)) (p : List AV → Bool) (hn : rows.length < 1099511627776) (he : ∀ r ∈ rows, r.length = 3) (hx : SlOf h x 3 rows) (hp : PredOf h f cs agA rows p) :
    ACalls Tryz.prog 138 [x, .fn (.func f) [] cs] h fun r h' => r = i64 (ixOf rows p) ∧ h' = h := by
  refine acalls_wp Tryz.f138 [.tmp 4] 19 rfl rfl rfl rfl rfl rfl (by decide) (⟨_, _, ⟨rfl, rfl⟩, .refl⟩) fun B => ?_
  simp only [go_sem, hx.rows]
  refine wp_loop_a (by decide) (fun n T h' => h' = h ∧ ∃ k : Nat, T 0 = x ∧ T 1 = .fn (.func f) [] cs ∧ T 7 = i64 rows.length ∧ T 8 = i64 k ∧ k ≤ rows.length ∧ (∀ j (hj : j < rows.length), j < k → p rows[j] = false) ∧ n = rows.length - k) rows.length
    ⟨rfl, 0, by simp only [go_sem], by simp only [go_sem], by simp only [go_sem], by (simp only [go_sem] <;> rfl), by omega, fun _ _ h => by omega, rfl⟩ ?_
  rintro n T h' ⟨rfl, k, t0, t1, t7, t8, hk, h0, rfl⟩
  simp only [go_sem, t7, t8]
  refine ways (fun e1 => ?_) (fun e1 => ?_)
  · have hlt : k < rows.length := by simpa using e1
    have hee := hx.at hlt
    have hrow : rows[k]? = some rows[k] := List.getElem?_eq_getElem hlt
    have hkl : (k : Int) < rows.length := by omega
    have hc := he rows[k] (List.getElem_mem hlt)
    obtain ⟨a0, a1, a2, hcs⟩ : ∃ a0 a1 a2, rows[k] = [a0, a1, a2] := by
      match hr : rows[k], hc with
      | [a0, a1, a2], _ => exact ⟨_, _, _, rfl⟩
    have hpk := hp rows[k] (List.getElem_mem hlt) []
    rw [hcs] at hrow hpk
    simp only [List.append_nil, List.cons_append, List.nil_append, agA, nth] at hpk
    simp only [go_sem, hee, hx.rows, hrow, hkl, t0, t1, t7, t8, Int.toNat_natCast, Int.natCast_nonneg]
    refine call_by hpk ?_
    rintro _ h1 ⟨rfl, e2⟩
    subst e2
    simp only [go_sem]
    refine ways (fun e3 => ?_) (fun e3 => ?_)
    · simp only [go_sem, t8]
      rw [← hcs] at e3
      (first | refine endA_pure0 ?_ | refine endA_pure ?_ (by rfl)) <;> (simp only [go_sem, t8, ixOf_hit hlt (fun j hj => h0 j (by omega) hj) e3] <;> try rfl)
    · simp only [go_sem, t8, wr_succ (show k < 4611686018427387904 by omega)]
      rw [← hcs] at e3
      refine ⟨rows.length - (k + 1), by omega, k + 1, t0, t1, t7, rfl, by omega, fun j hj hjk => ?_, rfl⟩
      rcases Nat.lt_or_ge j k with hj2 | hj2
      · exact h0 j hj hj2
      · have : j = k := by omega
        subst this
        exact e3
  · have hlt : k = rows.length := by
      have : ¬ (k : Int) < rows.length := by simpa using e1
      omega
    simp only [go_sem]
    (first | refine endA_pure0 ?_ | refine endA_pure ?_ (by rfl)) <;> (simp only [go_sem, ixOf_none fun j hj => h0 j hj (by omega)] <;> try rfl)
theorem c78 (h : List Ob) (x : AV) (f : FuncId) (cs : List AV) (rows : List (List AV)) (p : List AV → Bool) (hn : rows.length < 1099511627776) (he : ∀ r ∈ rows, r.length = 3) (hx : SlOf h x 3 rows) (hp : PredOf h f cs agA rows p) :
    ACalls Tryz.prog 107 [x, .fn (.func f) [] cs] h fun r h' => r = bl (rows.any p) ∧ h' = h := by
  refine acalls_wp Tryz.f107 [.tmp 4] 9 rfl rfl rfl rfl rfl rfl (by decide) (⟨_, _, ⟨rfl, rfl⟩, .refl⟩) fun B => ?_
  simp only [go_sem]
  refine call_by (c100 h x f cs rows p hn he hx hp) ?_
  rintro _ h1 ⟨rfl, e2⟩
  subst e2
  simp only [go_sem, ixOf_any]
  (first | refine endA_pure0 ?_ | refine endA_pure ?_ (by rfl)) <;> (simp only [go_sem, ixOf_any] <;> try rfl)
theorem c103 (h : List Ob) (x : AV) (f : FuncId) (cs : List AV) (rows : List (List AV)) (p : List AV → Bool) (hn : rows.length < 1099511627776) (he : ∀ r ∈ rows, r.length = 4) (hx : SlOf h x 4 rows) (hp : PredOf h f cs agA rows p) :
    ACalls Tryz.prog 141 [x, .fn (.func f) [] cs] h fun r h' => r = i64 (ixOf rows p) ∧ h' = h := by
  refine acalls_wp Tryz.f141 [.tmp 4] 19 rfl rfl rfl rfl rfl rfl (by decide) (⟨_, _, ⟨rfl, rfl⟩, .refl⟩) fun B => ?_
  simp only [go_sem, hx.rows]
  refine wp_loop_a (by decide) (fun n T h' => h' = h ∧ ∃ k : Nat, T 0 = x ∧ T 1 = .fn (.func f) [] cs ∧ T 7 = i64 rows.length ∧ T 8 = i64 k ∧ k ≤ rows.length ∧ (∀ j (hj : j < rows.length), j < k → p rows[j] = false) ∧ n = rows.length - k) rows.length
    ⟨rfl, 0, by simp only [go_sem], by simp only [go_sem], by simp only [go_sem], by (simp only [go_sem] <;> rfl), by omega, fun _ _ h => by omega, rfl⟩ ?_
  rintro n T h' ⟨rfl, k, t0, t1, t7, t8, hk, h0, rfl⟩
  simp only [go_sem, t7, t8]
  refine ways (fun e1 => ?_) (fun e1 => ?_)
  · have hlt : k < rows.length := by simpa using e1
    have hee := hx.at hlt
    have hrow : rows[k]? = some rows[k] := List.getElem?_eq_getElem hlt
    have hkl : (k : Int) < rows.length := by omega
    have hc := he rows[k] (List.getElem_mem hlt)
    obtain ⟨a0, a1, a2, a3, hcs⟩ : ∃ a0 a1 a2 a3, rows[k] = [a0, a1, a2, a3] := by
      match hr : rows[k], hc with
      | [a0, a1, a2, a3], _ => exact ⟨_, _, _, _, rfl⟩
    have hpk := hp rows[k] (List.getElem_mem hlt) []
    rw [hcs] at hrow hpk
    simp only [List.append_nil, List.cons_append, List.nil_append, agA, nth] at hpk
    simp only [go_sem, hee, hx.rows, hrow, hkl, t0, t1, t7, t8, Int.toNat_natCast, Int.natCast_nonneg]
    refine call_by hpk ?_
    rintro _ h1 ⟨rfl, e2⟩
    subst e2
    simp only [go_sem]
    refine ways (fun e3 => ?_) (fun e3 => ?_)
    · simp only [go_sem, t8]
      rw [← hcs] at e3
      (first | refine endA_pure0 ?_ | refine endA_pure ?_ (by rfl)) <;> (simp only [go_sem, t8, ixOf_hit hlt (fun j hj => h0 j (by omega) hj) e3] <;> try rfl)
    · simp only [go_sem, t8, wr_succ (show k < 4611686018427387904 by omega)]
      rw [← hcs] at e3
      refine ⟨rows.length - (k + 1), by omega, k + 1, t0, t1, t7, rfl, by omega, fun j hj hjk => ?_, rfl⟩
      rcases Nat.lt_or_ge j k with hj2 | hj2
      · exact h0 j hj hj2
      · have : j = k := by omega
        subst this
        exact e3
  · have hlt : k = rows.length := by
      have : ¬ (k : Int) < rows.length := by simpa using e1
      omega
    simp only [go_sem]
    (first | refine endA_pure0 ?_ | refine endA_pure ?_ (by rfl)) <;> (simp only [go_sem, ixOf_none fun j hj => h0 j hj (by omega)] <;> try rfl)
theorem c81 (h : List Ob) (x : AV) (f : FuncId) (cs : List AV) (rows : List (List AV)) (p : List AV → Bool) (hn : rows.length < 1099511627776) (he : ∀ r ∈ rows, r.length = 4) (hx : SlOf h x 4 rows) (hp : PredOf h f cs agA rows p) :
    ACalls Tryz.prog 110 [x, .fn (.func f) [] cs] h fun r h' => r = bl (rows.any p) ∧ h' = h := by
  refine acalls_wp Tryz.f110 [.tmp 4] 9 rfl rfl rfl rfl rfl rfl (by decide) (⟨_, _, ⟨rfl, rfl⟩, .refl⟩) fun B => ?_
  simp only [go_sem]
  refine call_by (c103 h x f cs rows p hn he hx hp) ?_
  rintro _ h1 ⟨rfl, e2⟩
  subst e2
  simp only [go_sem, ixOf_any]
  (first | refine endA_pure0 ?_ | refine endA_pure ?_ (by rfl)) <;> (simp only [go_sem, ixOf_any] <;> try rfl)
theorem c42 (h : List Ob) (x : AV) (f : FuncId) (cs : List AV) (rows : List (List AV)) (p : List AV → Bool) (hn : rows.length < 1099511627776) (he : ∀ r ∈ rows, r.length = 11) (hx : SlOf h x 11 rows) (hp : PredOf h f cs agA rows p) :
    ACalls Tryz.prog 30 [x, .fn (.func f) [] cs] h fun r h' => r = i64 (ixOf rows p) ∧ h' = h := by
  refine acalls_wp Tryz.f30 [.tmp 4] 19 rfl rfl rfl rfl rfl rfl (by decide) (⟨_, _, ⟨rfl, rfl⟩, .refl⟩) fun B => ?_
  simp only [go_sem, hx.rows]
  refine wp_loop_a (by decide) (fun n T h' => h' = h ∧ ∃ k : Nat, T 0 = x ∧ T 1 = .fn (.func f) [] cs ∧ T 7 = i64 rows.length ∧ T 8 = i64 k ∧ k ≤ rows.length ∧ (∀ j (hj : j < rows.length), j < k → p rows[j] = false) ∧ n = rows.length - k) rows.length
    ⟨rfl, 0, by simp only [go_sem], by simp only [go_sem], by simp only [go_sem], by (simp only [go_sem] <;> rfl), by omega, fun _ _ h => by omega, rfl⟩ ?_
  rintro n T h' ⟨rfl, k, t0, t1, t7, t8, hk, h0, rfl⟩
  simp only [go_sem, t7, t8]
  refine ways (fun e1 => ?_) (fun e1 => ?_)
  · have hlt : k < rows.length := by simpa using e1
    have hee := hx.at hlt
    have hrow : rows[k]? = some rows[k] := List.getElem?_eq_getElem hlt
    have hkl : (k : Int) < rows.length := by omega
    have hc := he rows[k] (List.getElem_mem hlt)
    obtain ⟨a0, a1, a2, a3, a4, a5, a6, a7, a8, a9, a10, hcs⟩ : ∃ a0 a1 a2 a3 a4 a5 a6 a7 a8 a9 a10, rows[k] = [a0, a1, a2, a3, a4, a5, a6, a7, a8, a9, a10] := by
      match hr : rows[k], hc with
      | [a0, a1, a2, a3, a4, a5, a6, a7, a8, a9, a10], _ => exact ⟨_, _, _, _, _, _, _, _, _, _, _, rfl⟩
    have hpk := hp rows[k] (List.getElem_mem hlt) []
    rw [hcs] at hrow hpk
    simp only [List.append_nil, List.cons_append, List.nil_append, agA, nth] at hpk
    simp only [go_sem, hee, hx.rows, hrow, hkl, t0, t1, t7, t8, Int.toNat_natCast, Int.natCast_nonneg]
    refine call_by hpk ?_
    rintro _ h1 ⟨rfl, e2⟩
    subst e2
    simp only [go_sem]
    refine ways (fun e3 => ?_) (fun e3 => ?_)
    · simp only [go_sem, t8]
      rw [← hcs] at e3
      (first | refine endA_pure0 ?_ | refine endA_pure ?_ (by rfl)) <;> (simp only [go_sem, t8, ixOf_hit hlt (fun j hj => h0 j (by omega) hj) e3] <;> try rfl)
    · simp only [go_sem, t8, wr_succ (show k < 4611686018427387904 by omega)]
      rw [← hcs] at e3
      refine ⟨rows.length - (k + 1), by omega, k + 1, t0, t1, t7, rfl, by omega, fun j hj hjk => ?_, rfl⟩
      rcases Nat.lt_or_ge j k with hj2 | hj2
      · exact h0 j hj hj2
      · have : j = k := by omega
        subst this
        exact e3
  · have hlt : k = rows.length := by
      have : ¬ (k : Int) < rows.length := by simpa using e1
      omega
    simp only [go_sem]
    (first | refine endA_pure0 ?_ | refine endA_pure ?_ (by rfl)) <;> (simp only [go_sem, ixOf_none fun j hj => h0 j hj (by omega)] <;> try rfl)
end Go.Proofs.YtpdghiplnlhnfaaGreat.Ax
